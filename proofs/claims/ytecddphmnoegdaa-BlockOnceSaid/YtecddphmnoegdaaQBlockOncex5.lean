/- What this text proves: the functions that a law reaches, as functions on numbers and lists, and that Go's come to their answers; no condition. Written by the kit's print program, turned (wip/tools/patch_print.py). -/
import Derived.Test.YtecddphmnoegdaaQBlockOncex0
import Derived.Test.YtecddphmnoegdaaQBlockOncex2
import Derived.Test.YtecddphmnoegdaaQBlockOncex3
import Derived.Test.YtecddphmnoegdaaQBlockOncex4
namespace Go.Proofs.Ytecddphmnoegdaa.QBlockOnce
open Go.RowKit Go.Proofs.YtecddphmnoegdaaW.PrintWords Go.Proofs.YtecddphmnoegdaaW.PrintLast Go.Proofs.YtecddphmnoegdaaW.PrintMore
attribute [local go_sem] max2_int min2_int max_two min_two max_three min_three max_four min_four   -- for this text's walks alone
set_option linter.unusedVariables false
set_option linter.unusedSimpArgs false

/-! ### block_record: function 28 -/
def block_record.of (p q s : Int × Int) (o : Int × Int × Int × Int) : S32 × Int :=
  if p.2 = 0 ∨ q.2 = 0 ∨ o.2.2.2 = 0 ∨ s.2 = 0 then (z32, 0) else (⟨0, p.1, q.1, ⟨o.1, o.2.1, o.2.2.1⟩, s.1⟩, p.2 + q.2 + o.2.2.2 + s.2)
def block_record.f (k : Nat) (l0 : List Int) : Option (S32 × Int) :=
  (num_Get.f k l0).bind fun p => (if 0 ≤ p.2 then (if p.2 ≤ l0.length then
  ((num_GetSigned.f k (l0.drop p.2.toNat)).bind fun q => (if 0 ≤ q.2 then (if q.2 ≤ (l0.drop p.2.toNat).length then
  ((codec_GetOp.f k ((l0.drop p.2.toNat).drop q.2.toNat)).bind fun o => (if 0 ≤ o.2.2.2 then (if o.2.2.2 ≤ ((l0.drop p.2.toNat).drop q.2.toNat).length then
  ((num_GetSigned.f k (((l0.drop p.2.toNat).drop q.2.toNat).drop o.2.2.2.toNat)).bind fun s => (if 0 ≤ s.2 then (if s.2 ≤ (((l0.drop p.2.toNat).drop q.2.toNat).drop o.2.2.2.toNat).length then
    some (block_record.of p q s o)
  else none) else none)) else none) else none)) else none) else none)) else none) else none)
theorem block_record.mono : ∀ a0 k, LeO (block_record.f k a0) (block_record.f (k + 1) a0) := by
  intro a0 k
  unfold block_record.f
  repeat' first
      | (with_reducible exact num_Get.mono _ _)
      | (with_reducible exact num_GetSigned.mono _ _)
      | (with_reducible exact codec_GetOp.mono _ _)
      | (with_reducible exact LeO.refl _)
      | (with_reducible refine LeO.ite ?_ ?_)
      | (with_reducible refine LeO.bind ?_ (fun _ => ?_))
def block_record.cs (x : S32) : Array Value := #[.int .i64 x.f0, .int .i64 x.f1, .int .i64 x.f2, .int .i64 x.f3.f0, .int .i64 x.f3.f1, .int .i64 x.f3.f2, .int .i64 x.f4]
theorem block_record.put3 {W : World} {g t : Nat} {a0 a1 a2 a3 a4 a5 a6 u v x : Value} (h : W.heap[g]? = some (.cells #[a0, a1, a2, a3, a4, a5, a6] t (0, 0))) : (((W.setCell ⟨g, 3, none⟩ u).setCell ⟨g, 4, none⟩ v).setCell ⟨g, 5, none⟩ x).heap[g]? = some (.cells #[a0, a1, a2, u, v, x, a6] t (0, 0)) := by
  have h3 := blk_put h 3 u (cs' := #[a0, a1, a2, u, a4, a5, a6]) rfl
  have h4 := blk_put h3 4 v (cs' := #[a0, a1, a2, u, v, a5, a6]) rfl
  exact blk_put h4 5 x rfl
theorem block_record.put7 {W : World} {g t : Nat} {a0 a1 a2 a3 a4 a5 a6 b0 b1 b2 b3 b4 b5 b6 : Value} (h : W.heap[g]? = some (.cells #[a0, a1, a2, a3, a4, a5, a6] t (0, 0))) : (((((((W.setCell ⟨g, 0, none⟩ b0).setCell ⟨g, 1, none⟩ b1).setCell ⟨g, 2, none⟩ b2).setCell ⟨g, 3, none⟩ b3).setCell ⟨g, 4, none⟩ b4).setCell ⟨g, 5, none⟩ b5).setCell ⟨g, 6, none⟩ b6).heap[g]? = some (.cells #[b0, b1, b2, b3, b4, b5, b6] t (0, 0)) := by
  have h0 := blk_put h 0 b0 (cs' := #[b0, a1, a2, a3, a4, a5, a6]) rfl
  have h1 := blk_put h0 1 b1 (cs' := #[b0, b1, a2, a3, a4, a5, a6]) rfl
  have h2 := blk_put h1 2 b2 (cs' := #[b0, b1, b2, a3, a4, a5, a6]) rfl
  have h3 := blk_put h2 3 b3 (cs' := #[b0, b1, b2, b3, a4, a5, a6]) rfl
  have h4 := blk_put h3 4 b4 (cs' := #[b0, b1, b2, b3, b4, a5, a6]) rfl
  have h5 := blk_put h4 5 b5 (cs' := #[b0, b1, b2, b3, b4, b5, a6]) rfl
  exact blk_put h5 6 b6 rfl
theorem block_record.below7 {w W : World} {g : Nat} {b0 b1 b2 b3 b4 b5 b6 : Value} (hb : Below w.heap.size w W) (hG : w.heap.size ≤ g) : Below w.heap.size w (((((((W.setCell ⟨g, 0, none⟩ b0).setCell ⟨g, 1, none⟩ b1).setCell ⟨g, 2, none⟩ b2).setCell ⟨g, 3, none⟩ b3).setCell ⟨g, 4, none⟩ b4).setCell ⟨g, 5, none⟩ b5).setCell ⟨g, 6, none⟩ b6) :=
  below_set (below_set (below_set (below_set (below_set (below_set (below_set hb hG) hG) hG) hG) hG) hG) hG
theorem block_record.parts {k : Nat} {l0 : List Int} {r : S32 × Int} (h : block_record.f k l0 = some r) : ∃ (p1 p2 q1 q2 o1 o2 o3 o4 s1 s2 : Int) (l1 l2 l3 : List Int), num_Get.f k l0 = some (p1, p2) ∧ 0 ≤ p2 ∧ p2 ≤ l0.length ∧ l1 = l0.drop p2.toNat ∧ num_GetSigned.f k l1 = some (q1, q2) ∧ 0 ≤ q2 ∧ q2 ≤ l1.length ∧ l2 = l1.drop q2.toNat ∧
    codec_GetOp.f k l2 = some (o1, o2, o3, o4) ∧ 0 ≤ o4 ∧ o4 ≤ l2.length ∧ l3 = l2.drop o4.toNat ∧ num_GetSigned.f k l3 = some (s1, s2) ∧ 0 ≤ s2 ∧ s2 ≤ l3.length ∧ block_record.of (p1, p2) (q1, q2) (s1, s2) (o1, o2, o3, o4) = r ∧ (l1.length : Int) = l0.length - p2 ∧ (l2.length : Int) = l1.length - q2 ∧ (l3.length : Int) = l2.length - o4 := by
  unfold block_record.f at h
  rw [Option.bind_eq_some_iff] at h
  obtain ⟨⟨p1, p2⟩, hp, h⟩ := h
  by_cases hp0 : 0 ≤ p2
  case neg => exact absurd h (by simp [hp0])
  by_cases hp1 : p2 ≤ l0.length
  case neg => exact absurd h (by simp [hp1])
  rw [if_pos hp0, if_pos hp1, Option.bind_eq_some_iff] at h
  obtain ⟨⟨q1, q2⟩, hq, h⟩ := h
  obtain ⟨l1, hl1⟩ : ∃ l1, l1 = l0.drop p2.toNat := ⟨_, rfl⟩
  have hlen1 : (l1.length : Int) = l0.length - p2 := by rw [hl1, List.length_drop]; omega
  simp only [← hl1] at hq h
  by_cases hq0 : 0 ≤ q2
  case neg => exact absurd h (by simp [hq0])
  by_cases hq1 : q2 ≤ l1.length
  case neg => exact absurd h (by simp [hq1])
  rw [if_pos hq0, if_pos hq1, Option.bind_eq_some_iff] at h
  obtain ⟨⟨o1, o2, o3, o4⟩, ho, h⟩ := h
  obtain ⟨l2, hl2⟩ : ∃ l2, l2 = l1.drop q2.toNat := ⟨_, rfl⟩
  have hlen2 : (l2.length : Int) = l1.length - q2 := by rw [hl2, List.length_drop]; omega
  simp only [← hl2] at ho h
  by_cases ho0 : 0 ≤ o4
  case neg => exact absurd h (by simp [ho0])
  by_cases ho1 : o4 ≤ l2.length
  case neg => exact absurd h (by simp [ho1])
  rw [if_pos ho0, if_pos ho1, Option.bind_eq_some_iff] at h
  obtain ⟨⟨s1, s2⟩, hs, h⟩ := h
  obtain ⟨l3, hl3⟩ : ∃ l3, l3 = l2.drop o4.toNat := ⟨_, rfl⟩
  have hlen3 : (l3.length : Int) = l2.length - o4 := by rw [hl3, List.length_drop]; omega
  simp only [← hl3] at hs h
  by_cases hs0 : 0 ≤ s2
  case neg => exact absurd h (by simp [hs0])
  by_cases hs1 : s2 ≤ l3.length
  case neg => exact absurd h (by simp [hs1])
  rw [if_pos hs0, if_pos hs1, Option.some.injEq] at h
  exact ⟨p1, p2, q1, q2, o1, o2, o3, o4, s1, s2, l1, l2, l3, hp, hp0, hp1, hl1, hq, hq0, hq1, hl2, ho, ho0, ho1, hl3, hs, hs0, hs1, h, hlen1, hlen2, hlen3⟩
set_option maxHeartbeats 8000000 in
set_option maxRecDepth 100000 in
theorem block_record.calls (k : Nat) (A0 : Option Addr) (c0 : Nat) (l0 : List Int) (x : S32) (r2 : Int) (w : World) (hr0 : Kd.C (Kd.int .u8) w A0 l0.length l0) (hc0 : l0.length ≤ c0) (h : block_record.f k l0 = some (x, r2)) :
    Calls Try.prog 28 #[.slice A0 l0.length c0] w fun e w' => e = .returned (.tuple #[.agg (block_record.cs x), .int .i64 r2]) ∧ Below w.heap.size w w' := by
  have hu32 := Try.underlying32
  have hu30 := Try.underlying30
  have hu57 := Try.underlying57
  obtain ⟨p1, p2, q1, q2, o1, o2, o3, o4, s1, s2, l1, l2, l3, hp, hp0, hp1, hl1, hq, hq0, hq1, hl2, ho, ho0, ho1, hl3, hs, hs0, hs1, h, n1, n2, n3⟩ := block_record.parts h
  have hinf : (Try.prog.info? 5).map (fun i => (i.zero, i.size, i.bytes)) = some (some (.int .u8 0), 1, 1) := by kernel_rfl
  obtain ⟨ii, hii, _, hz1, _⟩ := info_parts hinf
  have hL := hr0.2.1
  obtain ⟨A1, hrun1, hread1, hlen1⟩ := print_cut_int (P := Try.prog) (k := .u8) 24 5 Try.underlying24 hii hz1 A0 c0 l0 p2 hp0 hp1 hc0
  rw [← hl1] at hrun1 hread1 hlen1
  obtain ⟨A2, hrun2, hread2, hlen2⟩ := print_cut_int (P := Try.prog) (k := .u8) 24 5 Try.underlying24 hii hz1 A1 (c0 - p2.toNat) l1 q2 hq0 hq1 hlen1
  rw [← hl2] at hrun2 hread2 hlen2
  obtain ⟨A3, hrun3, hread3, hlen3⟩ := print_cut_int (P := Try.prog) (k := .u8) 24 5 Try.underlying24 hii hz1 A2 (c0 - p2.toNat - q2.toNat) l2 o4 ho0 ho1 hlen2
  rw [← hl3] at hrun3 hread3 hlen3
  have e0 := Kd.reads_of_C (enc := Value.int .u8) (d := (0 : Int)) (h1 := fun _ => rfl) hr0
  have e1 := hread1 w e0
  have e2 := hread2 w e1
  have e3 := hread3 w e2
  have HR0 := Aside0.mk hr0
  have HR1 := Aside0.mk (Kd.C_of_reads (enc := Value.int .u8) (d := (0 : Int)) (h1 := fun _ => rfl) e1)
  have HR2 := Aside0.mk (Kd.C_of_reads (enc := Value.int .u8) (d := (0 : Int)) (h1 := fun _ => rfl) e2)
  have HR3 := Aside0.mk (Kd.C_of_reads (enc := Value.int .u8) (d := (0 : Int)) (h1 := fun _ => rfl) e3)
  have HC0 := Aside0.mk hc0
  have HC1 := Aside0.mk hlen1
  have HC2 := Aside0.mk hlen2
  have HC3 := Aside0.mk hlen3
  have HP := Aside0.mk hp
  have HQ := Aside0.mk hq
  have HOp := Aside0.mk ho
  have HS := Aside0.mk hs
  have H := Aside0.mk h
  have HB := Aside0.mk (Below.refl w.heap.size w)
  have hpb : p2 ≤ 9223372036854775807 := by omega
  have HX : Aside0 (p2 + q2 + o4 + s2 ≤ 9223372036854775807) := ⟨by omega⟩
  clear hinf hii hz1 hread1 hread2 hread3 hlen1 hlen2 hlen3 e0 e1 e2 e3 hr0 hc0 hp hq ho hs h hl1 hl2 hl3 hp1 hq1 ho1 hs1 n1 n2 n3 hL
  have j0 : ∀ w, (Instr.index 57 (.agg #[.int .i64 p2, .int .i64 q2, .int .i64 o4, .int .i64 s2]) (.int .i64 0)).run Try.prog w = .ok (.int .i64 p2) w := fun _ => by kernel_rfl
  have j1 : ∀ w, (Instr.index 57 (.agg #[.int .i64 p2, .int .i64 q2, .int .i64 o4, .int .i64 s2]) (.int .i64 1)).run Try.prog w = .ok (.int .i64 q2) w := fun _ => by kernel_rfl
  have j2 : ∀ w, (Instr.index 57 (.agg #[.int .i64 p2, .int .i64 q2, .int .i64 o4, .int .i64 s2]) (.int .i64 2)).run Try.prog w = .ok (.int .i64 o4) w := fun _ => by kernel_rfl
  have j3 : ∀ w, (Instr.index 57 (.agg #[.int .i64 p2, .int .i64 q2, .int .i64 o4, .int .i64 s2]) (.int .i64 3)).run Try.prog w = .ok (.int .i64 s2) w := fun _ => by kernel_rfl
  by_cases z0 : p2 = 0
  · have t0 : (p2 == 0) = true := beq_iff_eq.mpr z0
    have h := H.out
    unfold block_record.of at h
    rw [if_pos (by simp only; omega)] at h
    simp only [Prod.mk.injEq] at h
    obtain ⟨rfl, rfl⟩ := h
    clear z0
    go_enter Try.func28, Try.ntmps28
    have tokA_ : True := trivial
    have tokB_ : True := trivial
    have tokC_ : True := trivial
    have tokD_ : True := trivial
    go_wp2_with (first
      | ((with_reducible refine gate_dst (N := 2) rfl ?_); refine box_event ?hg (N := 2) ?hd (cs := #[.int .i64 0, .int .i64 0, .int .i64 0, .int .i64 0, .int .i64 0, .int .i64 0, .int .i64 0]) (t := 32) ?hr ?_; (case hd => rfl); (case hg => rfl); (case hr => first | (go_simp; done) | (go_simp; rfl)); intro R hg Wb hbox hb; have BR := Aside0.mk hbox; have HBW := Aside0.mk (below_step HB.out hb); have HGR := Aside0.mk (show w.heap.size ≤ R by rw [hg]; exact below_size HB.out); clear hg hbox hb)
      | ((with_reducible refine gate_dst (N := 4) rfl ?_); refine box_event ?hg (N := 4) ?hd (cs := #[.int .i64 0, .int .i64 0, .int .i64 0, .int .i64 0]) (t := 57) ?hr ?_; (case hd => rfl); (case hg => rfl); (case hr => first | (go_simp; done) | (go_simp; rfl)); intro Q hg Wc hbox hb; have NRQ := Aside0.mk (show R ≠ Q by rw [hg]; exact Nat.ne_of_lt (blk_lt BR.out)); have HGQ := Aside0.mk (show w.heap.size ≤ Q by rw [hg]; exact below_size HBW.out); have n0 := Aside0.mk (blk_below BR.out hb); have BQ := Aside0.mk hbox; have n2 := Aside0.mk (below_step HBW.out hb); clear BR HBW hg hbox hb; have BR := n0; have HBW := n2; clear n0 n2; have nrq := NRQ.out; have nqr := Ne.symm NRQ.out; have r0 : Wc.cell? ⟨R, 0, none⟩ = some (.int .i64 0) := (blk_cell BR.out 0).trans rfl; have r1 : Wc.cell? ⟨R, 1, none⟩ = some (.int .i64 0) := (blk_cell BR.out 1).trans rfl; have r2 : Wc.cell? ⟨R, 2, none⟩ = some (.int .i64 0) := (blk_cell BR.out 2).trans rfl; have r3 : Wc.cell? ⟨R, 3, none⟩ = some (.int .i64 0) := (blk_cell BR.out 3).trans rfl; have r4 : Wc.cell? ⟨R, 4, none⟩ = some (.int .i64 0) := (blk_cell BR.out 4).trans rfl; have r5 : Wc.cell? ⟨R, 5, none⟩ = some (.int .i64 0) := (blk_cell BR.out 5).trans rfl; have r6 : Wc.cell? ⟨R, 6, none⟩ = some (.int .i64 0) := (blk_cell BR.out 6).trans rfl; have a0 : Wc.cell? ⟨Q, 0, none⟩ = some (.int .i64 0) := (blk_cell BQ.out 0).trans rfl; have a1 : Wc.cell? ⟨Q, 1, none⟩ = some (.int .i64 0) := (blk_cell BQ.out 1).trans rfl; have a2 : Wc.cell? ⟨Q, 2, none⟩ = some (.int .i64 0) := (blk_cell BQ.out 2).trans rfl; have a3 : Wc.cell? ⟨Q, 3, none⟩ = some (.int .i64 0) := (blk_cell BQ.out 3).trans rfl; have fr0 := blk_frozen BR.out 0; have fr1 := blk_frozen BR.out 1; have fr2 := blk_frozen BR.out 2; have fr3 := blk_frozen BR.out 3; have fr4 := blk_frozen BR.out 4; have fr5 := blk_frozen BR.out 5; have fr6 := blk_frozen BR.out 6; have fa0 := blk_frozen BQ.out 0; have fa1 := blk_frozen BQ.out 1; have fa2 := blk_frozen BQ.out 2; have fa3 := blk_frozen BQ.out 3)
      | (clear tokA_; go_at_call 27; refine (num_Get.calls k A0 c0 l0 p1 p2 _ (Kd.C_below HR0.out HBW.out) HC0.out HP.out).mono ?_; rintro e W1 ⟨rfl, hb⟩; have n0 := Aside0.mk (blk_below (g := R) (o := .cells #[.int .i64 0, .int .i64 0, .int .i64 0, .int .i64 0, .int .i64 0, .int .i64 0, .int .i64 0] 32 (0, 0)) (BR.out) hb); have n1 := Aside0.mk (blk_below (g := Q) (o := .cells #[.int .i64 0, .int .i64 0, .int .i64 0, .int .i64 0] 57 (0, 0)) (BQ.out) hb); have n2 := Aside0.mk (below_step (by repeat (first | exact HBW.out | (refine below_set ?_ HGR.out) | (refine below_set ?_ HGQ.out))) hb); clear BR BQ HBW hb; have BR := n0; have BQ := n1; have HBW := n2; clear n0 n1 n2; clear r0 r1 r2 r3 r4 r5 r6 a0 a1 a2 a3 fr0 fr1 fr2 fr3 fr4 fr5 fr6 fa0 fa1 fa2 fa3; have r0 : W1.cell? ⟨R, 0, none⟩ = some (.int .i64 0) := (blk_cell BR.out 0).trans rfl; have r1 : W1.cell? ⟨R, 1, none⟩ = some (.int .i64 0) := (blk_cell BR.out 1).trans rfl; have r2 : W1.cell? ⟨R, 2, none⟩ = some (.int .i64 0) := (blk_cell BR.out 2).trans rfl; have r3 : W1.cell? ⟨R, 3, none⟩ = some (.int .i64 0) := (blk_cell BR.out 3).trans rfl; have r4 : W1.cell? ⟨R, 4, none⟩ = some (.int .i64 0) := (blk_cell BR.out 4).trans rfl; have r5 : W1.cell? ⟨R, 5, none⟩ = some (.int .i64 0) := (blk_cell BR.out 5).trans rfl; have r6 : W1.cell? ⟨R, 6, none⟩ = some (.int .i64 0) := (blk_cell BR.out 6).trans rfl; have a0 : W1.cell? ⟨Q, 0, none⟩ = some (.int .i64 0) := (blk_cell BQ.out 0).trans rfl; have a1 : W1.cell? ⟨Q, 1, none⟩ = some (.int .i64 0) := (blk_cell BQ.out 1).trans rfl; have a2 : W1.cell? ⟨Q, 2, none⟩ = some (.int .i64 0) := (blk_cell BQ.out 2).trans rfl; have a3 : W1.cell? ⟨Q, 3, none⟩ = some (.int .i64 0) := (blk_cell BQ.out 3).trans rfl; have fr0 := blk_frozen BR.out 0; have fr1 := blk_frozen BR.out 1; have fr2 := blk_frozen BR.out 2; have fr3 := blk_frozen BR.out 3; have fr4 := blk_frozen BR.out 4; have fr5 := blk_frozen BR.out 5; have fr6 := blk_frozen BR.out 6; have fa0 := blk_frozen BQ.out 0; have fa1 := blk_frozen BQ.out 1; have fa2 := blk_frozen BQ.out 2; have fa3 := blk_frozen BQ.out 3)
      | (clear tokB_; go_at_call 39; refine (num_GetSigned.calls k A1 (c0 - p2.toNat) l1 q1 q2 _ (Kd.C_below HR1.out (below_set (below_set HBW.out HGR.out) HGQ.out)) HC1.out HQ.out).mono ?_; rintro e W2 ⟨rfl, hb⟩; have n0 := Aside0.mk (blk_below (g := R) (o := .cells #[.int .i64 0, .int .i64 p1, .int .i64 0, .int .i64 0, .int .i64 0, .int .i64 0, .int .i64 0] 32 (0, 0)) (blk_far (blk_put BR.out 1 _ rfl) (p := ⟨Q, 0, none⟩) NRQ.out _) hb); have n1 := Aside0.mk (blk_below (g := Q) (o := .cells #[.int .i64 p2, .int .i64 0, .int .i64 0, .int .i64 0] 57 (0, 0)) (blk_put (blk_far BQ.out (p := ⟨R, 1, none⟩) (Ne.symm NRQ.out) _) 0 _ rfl) hb); have n2 := Aside0.mk (below_step (by repeat (first | exact HBW.out | (refine below_set ?_ HGR.out) | (refine below_set ?_ HGQ.out))) hb); clear BR BQ HBW hb; have BR := n0; have BQ := n1; have HBW := n2; clear n0 n1 n2; clear r0 r1 r2 r3 r4 r5 r6 a0 a1 a2 a3 fr0 fr1 fr2 fr3 fr4 fr5 fr6 fa0 fa1 fa2 fa3; have r0 : W2.cell? ⟨R, 0, none⟩ = some (.int .i64 0) := (blk_cell BR.out 0).trans rfl; have r1 : W2.cell? ⟨R, 1, none⟩ = some (.int .i64 p1) := (blk_cell BR.out 1).trans rfl; have r2 : W2.cell? ⟨R, 2, none⟩ = some (.int .i64 0) := (blk_cell BR.out 2).trans rfl; have r3 : W2.cell? ⟨R, 3, none⟩ = some (.int .i64 0) := (blk_cell BR.out 3).trans rfl; have r4 : W2.cell? ⟨R, 4, none⟩ = some (.int .i64 0) := (blk_cell BR.out 4).trans rfl; have r5 : W2.cell? ⟨R, 5, none⟩ = some (.int .i64 0) := (blk_cell BR.out 5).trans rfl; have r6 : W2.cell? ⟨R, 6, none⟩ = some (.int .i64 0) := (blk_cell BR.out 6).trans rfl; have a0 : W2.cell? ⟨Q, 0, none⟩ = some (.int .i64 p2) := (blk_cell BQ.out 0).trans rfl; have a1 : W2.cell? ⟨Q, 1, none⟩ = some (.int .i64 0) := (blk_cell BQ.out 1).trans rfl; have a2 : W2.cell? ⟨Q, 2, none⟩ = some (.int .i64 0) := (blk_cell BQ.out 2).trans rfl; have a3 : W2.cell? ⟨Q, 3, none⟩ = some (.int .i64 0) := (blk_cell BQ.out 3).trans rfl; have fr0 := blk_frozen BR.out 0; have fr1 := blk_frozen BR.out 1; have fr2 := blk_frozen BR.out 2; have fr3 := blk_frozen BR.out 3; have fr4 := blk_frozen BR.out 4; have fr5 := blk_frozen BR.out 5; have fr6 := blk_frozen BR.out 6; have fa0 := blk_frozen BQ.out 0; have fa1 := blk_frozen BQ.out 1; have fa2 := blk_frozen BQ.out 2; have fa3 := blk_frozen BQ.out 3)
      | (clear tokC_; go_at_call 40; refine (codec_GetOp.calls k A2 (c0 - p2.toNat - q2.toNat) l2 o1 o2 o3 o4 _ (Kd.C_below HR2.out (below_set (below_set HBW.out HGR.out) HGQ.out)) HC2.out HOp.out).mono ?_; rintro e W3 ⟨rfl, hb⟩; have n0 := Aside0.mk (blk_below (g := R) (o := .cells #[.int .i64 0, .int .i64 p1, .int .i64 q1, .int .i64 0, .int .i64 0, .int .i64 0, .int .i64 0] 32 (0, 0)) (blk_far (blk_put BR.out 2 _ rfl) (p := ⟨Q, 1, none⟩) NRQ.out _) hb); have n1 := Aside0.mk (blk_below (g := Q) (o := .cells #[.int .i64 p2, .int .i64 q2, .int .i64 0, .int .i64 0] 57 (0, 0)) (blk_put (blk_far BQ.out (p := ⟨R, 2, none⟩) (Ne.symm NRQ.out) _) 1 _ rfl) hb); have n2 := Aside0.mk (below_step (by repeat (first | exact HBW.out | (refine below_set ?_ HGR.out) | (refine below_set ?_ HGQ.out))) hb); clear BR BQ HBW hb; have BR := n0; have BQ := n1; have HBW := n2; clear n0 n1 n2; clear r0 r1 r2 r3 r4 r5 r6 a0 a1 a2 a3 fr0 fr1 fr2 fr3 fr4 fr5 fr6 fa0 fa1 fa2 fa3; have r0 : W3.cell? ⟨R, 0, none⟩ = some (.int .i64 0) := (blk_cell BR.out 0).trans rfl; have r1 : W3.cell? ⟨R, 1, none⟩ = some (.int .i64 p1) := (blk_cell BR.out 1).trans rfl; have r2 : W3.cell? ⟨R, 2, none⟩ = some (.int .i64 q1) := (blk_cell BR.out 2).trans rfl; have r3 : W3.cell? ⟨R, 3, none⟩ = some (.int .i64 0) := (blk_cell BR.out 3).trans rfl; have r4 : W3.cell? ⟨R, 4, none⟩ = some (.int .i64 0) := (blk_cell BR.out 4).trans rfl; have r5 : W3.cell? ⟨R, 5, none⟩ = some (.int .i64 0) := (blk_cell BR.out 5).trans rfl; have r6 : W3.cell? ⟨R, 6, none⟩ = some (.int .i64 0) := (blk_cell BR.out 6).trans rfl; have a0 : W3.cell? ⟨Q, 0, none⟩ = some (.int .i64 p2) := (blk_cell BQ.out 0).trans rfl; have a1 : W3.cell? ⟨Q, 1, none⟩ = some (.int .i64 q2) := (blk_cell BQ.out 1).trans rfl; have a2 : W3.cell? ⟨Q, 2, none⟩ = some (.int .i64 0) := (blk_cell BQ.out 2).trans rfl; have a3 : W3.cell? ⟨Q, 3, none⟩ = some (.int .i64 0) := (blk_cell BQ.out 3).trans rfl; have fr0 := blk_frozen BR.out 0; have fr1 := blk_frozen BR.out 1; have fr2 := blk_frozen BR.out 2; have fr3 := blk_frozen BR.out 3; have fr4 := blk_frozen BR.out 4; have fr5 := blk_frozen BR.out 5; have fr6 := blk_frozen BR.out 6; have fa0 := blk_frozen BQ.out 0; have fa1 := blk_frozen BQ.out 1; have fa2 := blk_frozen BQ.out 2; have fa3 := blk_frozen BQ.out 3)
      | (clear tokD_; go_at_call 39; refine (num_GetSigned.calls k A3 (c0 - p2.toNat - q2.toNat - o4.toNat) l3 s1 s2 _ (Kd.C_below HR3.out (below_set (below_set (below_set (below_set HBW.out HGR.out) HGR.out) HGR.out) HGQ.out)) HC3.out HS.out).mono ?_; rintro e W4 ⟨rfl, hb⟩; have n0 := Aside0.mk (blk_below (g := R) (o := .cells #[.int .i64 0, .int .i64 p1, .int .i64 q1, .int .i64 o1, .int .i64 o2, .int .i64 o3, .int .i64 0] 32 (0, 0)) (blk_far (block_record.put3 BR.out) (p := ⟨Q, 2, none⟩) NRQ.out _) hb); have n1 := Aside0.mk (blk_below (g := Q) (o := .cells #[.int .i64 p2, .int .i64 q2, .int .i64 o4, .int .i64 0] 57 (0, 0)) (blk_put (blk_far (blk_far (blk_far BQ.out (p := ⟨R, 3, none⟩) (Ne.symm NRQ.out) _) (p := ⟨R, 4, none⟩) (Ne.symm NRQ.out) _) (p := ⟨R, 5, none⟩) (Ne.symm NRQ.out) _) 2 _ rfl) hb); have n2 := Aside0.mk (below_step (by repeat (first | exact HBW.out | (refine below_set ?_ HGR.out) | (refine below_set ?_ HGQ.out))) hb); clear BR BQ HBW hb; have BR := n0; have BQ := n1; have HBW := n2; clear n0 n1 n2; clear r0 r1 r2 r3 r4 r5 r6 a0 a1 a2 a3 fr0 fr1 fr2 fr3 fr4 fr5 fr6 fa0 fa1 fa2 fa3; have r0 : W4.cell? ⟨R, 0, none⟩ = some (.int .i64 0) := (blk_cell BR.out 0).trans rfl; have r1 : W4.cell? ⟨R, 1, none⟩ = some (.int .i64 p1) := (blk_cell BR.out 1).trans rfl; have r2 : W4.cell? ⟨R, 2, none⟩ = some (.int .i64 q1) := (blk_cell BR.out 2).trans rfl; have r3 : W4.cell? ⟨R, 3, none⟩ = some (.int .i64 o1) := (blk_cell BR.out 3).trans rfl; have r4 : W4.cell? ⟨R, 4, none⟩ = some (.int .i64 o2) := (blk_cell BR.out 4).trans rfl; have r5 : W4.cell? ⟨R, 5, none⟩ = some (.int .i64 o3) := (blk_cell BR.out 5).trans rfl; have r6 : W4.cell? ⟨R, 6, none⟩ = some (.int .i64 0) := (blk_cell BR.out 6).trans rfl; have a0 : W4.cell? ⟨Q, 0, none⟩ = some (.int .i64 p2) := (blk_cell BQ.out 0).trans rfl; have a1 : W4.cell? ⟨Q, 1, none⟩ = some (.int .i64 q2) := (blk_cell BQ.out 1).trans rfl; have a2 : W4.cell? ⟨Q, 2, none⟩ = some (.int .i64 o4) := (blk_cell BQ.out 2).trans rfl; have a3 : W4.cell? ⟨Q, 3, none⟩ = some (.int .i64 0) := (blk_cell BQ.out 3).trans rfl; have fr0 := blk_frozen BR.out 0; have fr1 := blk_frozen BR.out 1; have fr2 := blk_frozen BR.out 2; have fr3 := blk_frozen BR.out 3; have fr4 := blk_frozen BR.out 4; have fr5 := blk_frozen BR.out 5; have fr6 := blk_frozen BR.out 6; have fa0 := blk_frozen BQ.out 0; have fa1 := blk_frozen BQ.out 1; have fa2 := blk_frozen BQ.out 2; have fa3 := blk_frozen BQ.out 3))
    refine wp_loop_rounds 5 ?_
    repeat any_goals (rw [rounds_succ]; go_wp2)
    refine bodyPost_ret (results_ct rfl _ _ R 32 (block_record.cs z32) (0, 0) _ rfl (block_record.put7 (blk_far (blk_put BR.out 6 _ rfl) (p := ⟨Q, 3, none⟩) NRQ.out _)) Try.underlying32 rfl (by kernel_rfl)) rfl ⟨rfl, ?_⟩
    exact block_record.below7 (below_set (below_set HBW.out HGR.out) HGQ.out) HGR.out
  have t0 : (p2 == 0) = false := beq_eq_false_iff_ne.mpr z0
  by_cases z1 : q2 = 0
  · have t1 : (q2 == 0) = true := beq_iff_eq.mpr z1
    have h := H.out
    unfold block_record.of at h
    rw [if_pos (by simp only; omega)] at h
    simp only [Prod.mk.injEq] at h
    obtain ⟨rfl, rfl⟩ := h
    clear z1
    go_enter Try.func28, Try.ntmps28
    have tokA_ : True := trivial
    have tokB_ : True := trivial
    have tokC_ : True := trivial
    have tokD_ : True := trivial
    go_wp2_with (first
      | ((with_reducible refine gate_dst (N := 2) rfl ?_); refine box_event ?hg (N := 2) ?hd (cs := #[.int .i64 0, .int .i64 0, .int .i64 0, .int .i64 0, .int .i64 0, .int .i64 0, .int .i64 0]) (t := 32) ?hr ?_; (case hd => rfl); (case hg => rfl); (case hr => first | (go_simp; done) | (go_simp; rfl)); intro R hg Wb hbox hb; have BR := Aside0.mk hbox; have HBW := Aside0.mk (below_step HB.out hb); have HGR := Aside0.mk (show w.heap.size ≤ R by rw [hg]; exact below_size HB.out); clear hg hbox hb)
      | ((with_reducible refine gate_dst (N := 4) rfl ?_); refine box_event ?hg (N := 4) ?hd (cs := #[.int .i64 0, .int .i64 0, .int .i64 0, .int .i64 0]) (t := 57) ?hr ?_; (case hd => rfl); (case hg => rfl); (case hr => first | (go_simp; done) | (go_simp; rfl)); intro Q hg Wc hbox hb; have NRQ := Aside0.mk (show R ≠ Q by rw [hg]; exact Nat.ne_of_lt (blk_lt BR.out)); have HGQ := Aside0.mk (show w.heap.size ≤ Q by rw [hg]; exact below_size HBW.out); have n0 := Aside0.mk (blk_below BR.out hb); have BQ := Aside0.mk hbox; have n2 := Aside0.mk (below_step HBW.out hb); clear BR HBW hg hbox hb; have BR := n0; have HBW := n2; clear n0 n2; have nrq := NRQ.out; have nqr := Ne.symm NRQ.out; have r0 : Wc.cell? ⟨R, 0, none⟩ = some (.int .i64 0) := (blk_cell BR.out 0).trans rfl; have r1 : Wc.cell? ⟨R, 1, none⟩ = some (.int .i64 0) := (blk_cell BR.out 1).trans rfl; have r2 : Wc.cell? ⟨R, 2, none⟩ = some (.int .i64 0) := (blk_cell BR.out 2).trans rfl; have r3 : Wc.cell? ⟨R, 3, none⟩ = some (.int .i64 0) := (blk_cell BR.out 3).trans rfl; have r4 : Wc.cell? ⟨R, 4, none⟩ = some (.int .i64 0) := (blk_cell BR.out 4).trans rfl; have r5 : Wc.cell? ⟨R, 5, none⟩ = some (.int .i64 0) := (blk_cell BR.out 5).trans rfl; have r6 : Wc.cell? ⟨R, 6, none⟩ = some (.int .i64 0) := (blk_cell BR.out 6).trans rfl; have a0 : Wc.cell? ⟨Q, 0, none⟩ = some (.int .i64 0) := (blk_cell BQ.out 0).trans rfl; have a1 : Wc.cell? ⟨Q, 1, none⟩ = some (.int .i64 0) := (blk_cell BQ.out 1).trans rfl; have a2 : Wc.cell? ⟨Q, 2, none⟩ = some (.int .i64 0) := (blk_cell BQ.out 2).trans rfl; have a3 : Wc.cell? ⟨Q, 3, none⟩ = some (.int .i64 0) := (blk_cell BQ.out 3).trans rfl; have fr0 := blk_frozen BR.out 0; have fr1 := blk_frozen BR.out 1; have fr2 := blk_frozen BR.out 2; have fr3 := blk_frozen BR.out 3; have fr4 := blk_frozen BR.out 4; have fr5 := blk_frozen BR.out 5; have fr6 := blk_frozen BR.out 6; have fa0 := blk_frozen BQ.out 0; have fa1 := blk_frozen BQ.out 1; have fa2 := blk_frozen BQ.out 2; have fa3 := blk_frozen BQ.out 3)
      | (clear tokA_; go_at_call 27; refine (num_Get.calls k A0 c0 l0 p1 p2 _ (Kd.C_below HR0.out HBW.out) HC0.out HP.out).mono ?_; rintro e W1 ⟨rfl, hb⟩; have n0 := Aside0.mk (blk_below (g := R) (o := .cells #[.int .i64 0, .int .i64 0, .int .i64 0, .int .i64 0, .int .i64 0, .int .i64 0, .int .i64 0] 32 (0, 0)) (BR.out) hb); have n1 := Aside0.mk (blk_below (g := Q) (o := .cells #[.int .i64 0, .int .i64 0, .int .i64 0, .int .i64 0] 57 (0, 0)) (BQ.out) hb); have n2 := Aside0.mk (below_step (by repeat (first | exact HBW.out | (refine below_set ?_ HGR.out) | (refine below_set ?_ HGQ.out))) hb); clear BR BQ HBW hb; have BR := n0; have BQ := n1; have HBW := n2; clear n0 n1 n2; clear r0 r1 r2 r3 r4 r5 r6 a0 a1 a2 a3 fr0 fr1 fr2 fr3 fr4 fr5 fr6 fa0 fa1 fa2 fa3; have r0 : W1.cell? ⟨R, 0, none⟩ = some (.int .i64 0) := (blk_cell BR.out 0).trans rfl; have r1 : W1.cell? ⟨R, 1, none⟩ = some (.int .i64 0) := (blk_cell BR.out 1).trans rfl; have r2 : W1.cell? ⟨R, 2, none⟩ = some (.int .i64 0) := (blk_cell BR.out 2).trans rfl; have r3 : W1.cell? ⟨R, 3, none⟩ = some (.int .i64 0) := (blk_cell BR.out 3).trans rfl; have r4 : W1.cell? ⟨R, 4, none⟩ = some (.int .i64 0) := (blk_cell BR.out 4).trans rfl; have r5 : W1.cell? ⟨R, 5, none⟩ = some (.int .i64 0) := (blk_cell BR.out 5).trans rfl; have r6 : W1.cell? ⟨R, 6, none⟩ = some (.int .i64 0) := (blk_cell BR.out 6).trans rfl; have a0 : W1.cell? ⟨Q, 0, none⟩ = some (.int .i64 0) := (blk_cell BQ.out 0).trans rfl; have a1 : W1.cell? ⟨Q, 1, none⟩ = some (.int .i64 0) := (blk_cell BQ.out 1).trans rfl; have a2 : W1.cell? ⟨Q, 2, none⟩ = some (.int .i64 0) := (blk_cell BQ.out 2).trans rfl; have a3 : W1.cell? ⟨Q, 3, none⟩ = some (.int .i64 0) := (blk_cell BQ.out 3).trans rfl; have fr0 := blk_frozen BR.out 0; have fr1 := blk_frozen BR.out 1; have fr2 := blk_frozen BR.out 2; have fr3 := blk_frozen BR.out 3; have fr4 := blk_frozen BR.out 4; have fr5 := blk_frozen BR.out 5; have fr6 := blk_frozen BR.out 6; have fa0 := blk_frozen BQ.out 0; have fa1 := blk_frozen BQ.out 1; have fa2 := blk_frozen BQ.out 2; have fa3 := blk_frozen BQ.out 3)
      | (clear tokB_; go_at_call 39; refine (num_GetSigned.calls k A1 (c0 - p2.toNat) l1 q1 q2 _ (Kd.C_below HR1.out (below_set (below_set HBW.out HGR.out) HGQ.out)) HC1.out HQ.out).mono ?_; rintro e W2 ⟨rfl, hb⟩; have n0 := Aside0.mk (blk_below (g := R) (o := .cells #[.int .i64 0, .int .i64 p1, .int .i64 0, .int .i64 0, .int .i64 0, .int .i64 0, .int .i64 0] 32 (0, 0)) (blk_far (blk_put BR.out 1 _ rfl) (p := ⟨Q, 0, none⟩) NRQ.out _) hb); have n1 := Aside0.mk (blk_below (g := Q) (o := .cells #[.int .i64 p2, .int .i64 0, .int .i64 0, .int .i64 0] 57 (0, 0)) (blk_put (blk_far BQ.out (p := ⟨R, 1, none⟩) (Ne.symm NRQ.out) _) 0 _ rfl) hb); have n2 := Aside0.mk (below_step (by repeat (first | exact HBW.out | (refine below_set ?_ HGR.out) | (refine below_set ?_ HGQ.out))) hb); clear BR BQ HBW hb; have BR := n0; have BQ := n1; have HBW := n2; clear n0 n1 n2; clear r0 r1 r2 r3 r4 r5 r6 a0 a1 a2 a3 fr0 fr1 fr2 fr3 fr4 fr5 fr6 fa0 fa1 fa2 fa3; have r0 : W2.cell? ⟨R, 0, none⟩ = some (.int .i64 0) := (blk_cell BR.out 0).trans rfl; have r1 : W2.cell? ⟨R, 1, none⟩ = some (.int .i64 p1) := (blk_cell BR.out 1).trans rfl; have r2 : W2.cell? ⟨R, 2, none⟩ = some (.int .i64 0) := (blk_cell BR.out 2).trans rfl; have r3 : W2.cell? ⟨R, 3, none⟩ = some (.int .i64 0) := (blk_cell BR.out 3).trans rfl; have r4 : W2.cell? ⟨R, 4, none⟩ = some (.int .i64 0) := (blk_cell BR.out 4).trans rfl; have r5 : W2.cell? ⟨R, 5, none⟩ = some (.int .i64 0) := (blk_cell BR.out 5).trans rfl; have r6 : W2.cell? ⟨R, 6, none⟩ = some (.int .i64 0) := (blk_cell BR.out 6).trans rfl; have a0 : W2.cell? ⟨Q, 0, none⟩ = some (.int .i64 p2) := (blk_cell BQ.out 0).trans rfl; have a1 : W2.cell? ⟨Q, 1, none⟩ = some (.int .i64 0) := (blk_cell BQ.out 1).trans rfl; have a2 : W2.cell? ⟨Q, 2, none⟩ = some (.int .i64 0) := (blk_cell BQ.out 2).trans rfl; have a3 : W2.cell? ⟨Q, 3, none⟩ = some (.int .i64 0) := (blk_cell BQ.out 3).trans rfl; have fr0 := blk_frozen BR.out 0; have fr1 := blk_frozen BR.out 1; have fr2 := blk_frozen BR.out 2; have fr3 := blk_frozen BR.out 3; have fr4 := blk_frozen BR.out 4; have fr5 := blk_frozen BR.out 5; have fr6 := blk_frozen BR.out 6; have fa0 := blk_frozen BQ.out 0; have fa1 := blk_frozen BQ.out 1; have fa2 := blk_frozen BQ.out 2; have fa3 := blk_frozen BQ.out 3)
      | (clear tokC_; go_at_call 40; refine (codec_GetOp.calls k A2 (c0 - p2.toNat - q2.toNat) l2 o1 o2 o3 o4 _ (Kd.C_below HR2.out (below_set (below_set HBW.out HGR.out) HGQ.out)) HC2.out HOp.out).mono ?_; rintro e W3 ⟨rfl, hb⟩; have n0 := Aside0.mk (blk_below (g := R) (o := .cells #[.int .i64 0, .int .i64 p1, .int .i64 q1, .int .i64 0, .int .i64 0, .int .i64 0, .int .i64 0] 32 (0, 0)) (blk_far (blk_put BR.out 2 _ rfl) (p := ⟨Q, 1, none⟩) NRQ.out _) hb); have n1 := Aside0.mk (blk_below (g := Q) (o := .cells #[.int .i64 p2, .int .i64 q2, .int .i64 0, .int .i64 0] 57 (0, 0)) (blk_put (blk_far BQ.out (p := ⟨R, 2, none⟩) (Ne.symm NRQ.out) _) 1 _ rfl) hb); have n2 := Aside0.mk (below_step (by repeat (first | exact HBW.out | (refine below_set ?_ HGR.out) | (refine below_set ?_ HGQ.out))) hb); clear BR BQ HBW hb; have BR := n0; have BQ := n1; have HBW := n2; clear n0 n1 n2; clear r0 r1 r2 r3 r4 r5 r6 a0 a1 a2 a3 fr0 fr1 fr2 fr3 fr4 fr5 fr6 fa0 fa1 fa2 fa3; have r0 : W3.cell? ⟨R, 0, none⟩ = some (.int .i64 0) := (blk_cell BR.out 0).trans rfl; have r1 : W3.cell? ⟨R, 1, none⟩ = some (.int .i64 p1) := (blk_cell BR.out 1).trans rfl; have r2 : W3.cell? ⟨R, 2, none⟩ = some (.int .i64 q1) := (blk_cell BR.out 2).trans rfl; have r3 : W3.cell? ⟨R, 3, none⟩ = some (.int .i64 0) := (blk_cell BR.out 3).trans rfl; have r4 : W3.cell? ⟨R, 4, none⟩ = some (.int .i64 0) := (blk_cell BR.out 4).trans rfl; have r5 : W3.cell? ⟨R, 5, none⟩ = some (.int .i64 0) := (blk_cell BR.out 5).trans rfl; have r6 : W3.cell? ⟨R, 6, none⟩ = some (.int .i64 0) := (blk_cell BR.out 6).trans rfl; have a0 : W3.cell? ⟨Q, 0, none⟩ = some (.int .i64 p2) := (blk_cell BQ.out 0).trans rfl; have a1 : W3.cell? ⟨Q, 1, none⟩ = some (.int .i64 q2) := (blk_cell BQ.out 1).trans rfl; have a2 : W3.cell? ⟨Q, 2, none⟩ = some (.int .i64 0) := (blk_cell BQ.out 2).trans rfl; have a3 : W3.cell? ⟨Q, 3, none⟩ = some (.int .i64 0) := (blk_cell BQ.out 3).trans rfl; have fr0 := blk_frozen BR.out 0; have fr1 := blk_frozen BR.out 1; have fr2 := blk_frozen BR.out 2; have fr3 := blk_frozen BR.out 3; have fr4 := blk_frozen BR.out 4; have fr5 := blk_frozen BR.out 5; have fr6 := blk_frozen BR.out 6; have fa0 := blk_frozen BQ.out 0; have fa1 := blk_frozen BQ.out 1; have fa2 := blk_frozen BQ.out 2; have fa3 := blk_frozen BQ.out 3)
      | (clear tokD_; go_at_call 39; refine (num_GetSigned.calls k A3 (c0 - p2.toNat - q2.toNat - o4.toNat) l3 s1 s2 _ (Kd.C_below HR3.out (below_set (below_set (below_set (below_set HBW.out HGR.out) HGR.out) HGR.out) HGQ.out)) HC3.out HS.out).mono ?_; rintro e W4 ⟨rfl, hb⟩; have n0 := Aside0.mk (blk_below (g := R) (o := .cells #[.int .i64 0, .int .i64 p1, .int .i64 q1, .int .i64 o1, .int .i64 o2, .int .i64 o3, .int .i64 0] 32 (0, 0)) (blk_far (block_record.put3 BR.out) (p := ⟨Q, 2, none⟩) NRQ.out _) hb); have n1 := Aside0.mk (blk_below (g := Q) (o := .cells #[.int .i64 p2, .int .i64 q2, .int .i64 o4, .int .i64 0] 57 (0, 0)) (blk_put (blk_far (blk_far (blk_far BQ.out (p := ⟨R, 3, none⟩) (Ne.symm NRQ.out) _) (p := ⟨R, 4, none⟩) (Ne.symm NRQ.out) _) (p := ⟨R, 5, none⟩) (Ne.symm NRQ.out) _) 2 _ rfl) hb); have n2 := Aside0.mk (below_step (by repeat (first | exact HBW.out | (refine below_set ?_ HGR.out) | (refine below_set ?_ HGQ.out))) hb); clear BR BQ HBW hb; have BR := n0; have BQ := n1; have HBW := n2; clear n0 n1 n2; clear r0 r1 r2 r3 r4 r5 r6 a0 a1 a2 a3 fr0 fr1 fr2 fr3 fr4 fr5 fr6 fa0 fa1 fa2 fa3; have r0 : W4.cell? ⟨R, 0, none⟩ = some (.int .i64 0) := (blk_cell BR.out 0).trans rfl; have r1 : W4.cell? ⟨R, 1, none⟩ = some (.int .i64 p1) := (blk_cell BR.out 1).trans rfl; have r2 : W4.cell? ⟨R, 2, none⟩ = some (.int .i64 q1) := (blk_cell BR.out 2).trans rfl; have r3 : W4.cell? ⟨R, 3, none⟩ = some (.int .i64 o1) := (blk_cell BR.out 3).trans rfl; have r4 : W4.cell? ⟨R, 4, none⟩ = some (.int .i64 o2) := (blk_cell BR.out 4).trans rfl; have r5 : W4.cell? ⟨R, 5, none⟩ = some (.int .i64 o3) := (blk_cell BR.out 5).trans rfl; have r6 : W4.cell? ⟨R, 6, none⟩ = some (.int .i64 0) := (blk_cell BR.out 6).trans rfl; have a0 : W4.cell? ⟨Q, 0, none⟩ = some (.int .i64 p2) := (blk_cell BQ.out 0).trans rfl; have a1 : W4.cell? ⟨Q, 1, none⟩ = some (.int .i64 q2) := (blk_cell BQ.out 1).trans rfl; have a2 : W4.cell? ⟨Q, 2, none⟩ = some (.int .i64 o4) := (blk_cell BQ.out 2).trans rfl; have a3 : W4.cell? ⟨Q, 3, none⟩ = some (.int .i64 0) := (blk_cell BQ.out 3).trans rfl; have fr0 := blk_frozen BR.out 0; have fr1 := blk_frozen BR.out 1; have fr2 := blk_frozen BR.out 2; have fr3 := blk_frozen BR.out 3; have fr4 := blk_frozen BR.out 4; have fr5 := blk_frozen BR.out 5; have fr6 := blk_frozen BR.out 6; have fa0 := blk_frozen BQ.out 0; have fa1 := blk_frozen BQ.out 1; have fa2 := blk_frozen BQ.out 2; have fa3 := blk_frozen BQ.out 3))
    refine wp_loop_rounds 5 ?_
    repeat any_goals (rw [rounds_succ]; go_wp2)
    refine bodyPost_ret (results_ct rfl _ _ R 32 (block_record.cs z32) (0, 0) _ rfl (block_record.put7 (blk_far (blk_put BR.out 6 _ rfl) (p := ⟨Q, 3, none⟩) NRQ.out _)) Try.underlying32 rfl (by kernel_rfl)) rfl ⟨rfl, ?_⟩
    exact block_record.below7 (below_set (below_set HBW.out HGR.out) HGQ.out) HGR.out
  have t1 : (q2 == 0) = false := beq_eq_false_iff_ne.mpr z1
  by_cases z2 : o4 = 0
  · have t2 : (o4 == 0) = true := beq_iff_eq.mpr z2
    have h := H.out
    unfold block_record.of at h
    rw [if_pos (by simp only; omega)] at h
    simp only [Prod.mk.injEq] at h
    obtain ⟨rfl, rfl⟩ := h
    clear z2
    go_enter Try.func28, Try.ntmps28
    have tokA_ : True := trivial
    have tokB_ : True := trivial
    have tokC_ : True := trivial
    have tokD_ : True := trivial
    go_wp2_with (first
      | ((with_reducible refine gate_dst (N := 2) rfl ?_); refine box_event ?hg (N := 2) ?hd (cs := #[.int .i64 0, .int .i64 0, .int .i64 0, .int .i64 0, .int .i64 0, .int .i64 0, .int .i64 0]) (t := 32) ?hr ?_; (case hd => rfl); (case hg => rfl); (case hr => first | (go_simp; done) | (go_simp; rfl)); intro R hg Wb hbox hb; have BR := Aside0.mk hbox; have HBW := Aside0.mk (below_step HB.out hb); have HGR := Aside0.mk (show w.heap.size ≤ R by rw [hg]; exact below_size HB.out); clear hg hbox hb)
      | ((with_reducible refine gate_dst (N := 4) rfl ?_); refine box_event ?hg (N := 4) ?hd (cs := #[.int .i64 0, .int .i64 0, .int .i64 0, .int .i64 0]) (t := 57) ?hr ?_; (case hd => rfl); (case hg => rfl); (case hr => first | (go_simp; done) | (go_simp; rfl)); intro Q hg Wc hbox hb; have NRQ := Aside0.mk (show R ≠ Q by rw [hg]; exact Nat.ne_of_lt (blk_lt BR.out)); have HGQ := Aside0.mk (show w.heap.size ≤ Q by rw [hg]; exact below_size HBW.out); have n0 := Aside0.mk (blk_below BR.out hb); have BQ := Aside0.mk hbox; have n2 := Aside0.mk (below_step HBW.out hb); clear BR HBW hg hbox hb; have BR := n0; have HBW := n2; clear n0 n2; have nrq := NRQ.out; have nqr := Ne.symm NRQ.out; have r0 : Wc.cell? ⟨R, 0, none⟩ = some (.int .i64 0) := (blk_cell BR.out 0).trans rfl; have r1 : Wc.cell? ⟨R, 1, none⟩ = some (.int .i64 0) := (blk_cell BR.out 1).trans rfl; have r2 : Wc.cell? ⟨R, 2, none⟩ = some (.int .i64 0) := (blk_cell BR.out 2).trans rfl; have r3 : Wc.cell? ⟨R, 3, none⟩ = some (.int .i64 0) := (blk_cell BR.out 3).trans rfl; have r4 : Wc.cell? ⟨R, 4, none⟩ = some (.int .i64 0) := (blk_cell BR.out 4).trans rfl; have r5 : Wc.cell? ⟨R, 5, none⟩ = some (.int .i64 0) := (blk_cell BR.out 5).trans rfl; have r6 : Wc.cell? ⟨R, 6, none⟩ = some (.int .i64 0) := (blk_cell BR.out 6).trans rfl; have a0 : Wc.cell? ⟨Q, 0, none⟩ = some (.int .i64 0) := (blk_cell BQ.out 0).trans rfl; have a1 : Wc.cell? ⟨Q, 1, none⟩ = some (.int .i64 0) := (blk_cell BQ.out 1).trans rfl; have a2 : Wc.cell? ⟨Q, 2, none⟩ = some (.int .i64 0) := (blk_cell BQ.out 2).trans rfl; have a3 : Wc.cell? ⟨Q, 3, none⟩ = some (.int .i64 0) := (blk_cell BQ.out 3).trans rfl; have fr0 := blk_frozen BR.out 0; have fr1 := blk_frozen BR.out 1; have fr2 := blk_frozen BR.out 2; have fr3 := blk_frozen BR.out 3; have fr4 := blk_frozen BR.out 4; have fr5 := blk_frozen BR.out 5; have fr6 := blk_frozen BR.out 6; have fa0 := blk_frozen BQ.out 0; have fa1 := blk_frozen BQ.out 1; have fa2 := blk_frozen BQ.out 2; have fa3 := blk_frozen BQ.out 3)
      | (clear tokA_; go_at_call 27; refine (num_Get.calls k A0 c0 l0 p1 p2 _ (Kd.C_below HR0.out HBW.out) HC0.out HP.out).mono ?_; rintro e W1 ⟨rfl, hb⟩; have n0 := Aside0.mk (blk_below (g := R) (o := .cells #[.int .i64 0, .int .i64 0, .int .i64 0, .int .i64 0, .int .i64 0, .int .i64 0, .int .i64 0] 32 (0, 0)) (BR.out) hb); have n1 := Aside0.mk (blk_below (g := Q) (o := .cells #[.int .i64 0, .int .i64 0, .int .i64 0, .int .i64 0] 57 (0, 0)) (BQ.out) hb); have n2 := Aside0.mk (below_step (by repeat (first | exact HBW.out | (refine below_set ?_ HGR.out) | (refine below_set ?_ HGQ.out))) hb); clear BR BQ HBW hb; have BR := n0; have BQ := n1; have HBW := n2; clear n0 n1 n2; clear r0 r1 r2 r3 r4 r5 r6 a0 a1 a2 a3 fr0 fr1 fr2 fr3 fr4 fr5 fr6 fa0 fa1 fa2 fa3; have r0 : W1.cell? ⟨R, 0, none⟩ = some (.int .i64 0) := (blk_cell BR.out 0).trans rfl; have r1 : W1.cell? ⟨R, 1, none⟩ = some (.int .i64 0) := (blk_cell BR.out 1).trans rfl; have r2 : W1.cell? ⟨R, 2, none⟩ = some (.int .i64 0) := (blk_cell BR.out 2).trans rfl; have r3 : W1.cell? ⟨R, 3, none⟩ = some (.int .i64 0) := (blk_cell BR.out 3).trans rfl; have r4 : W1.cell? ⟨R, 4, none⟩ = some (.int .i64 0) := (blk_cell BR.out 4).trans rfl; have r5 : W1.cell? ⟨R, 5, none⟩ = some (.int .i64 0) := (blk_cell BR.out 5).trans rfl; have r6 : W1.cell? ⟨R, 6, none⟩ = some (.int .i64 0) := (blk_cell BR.out 6).trans rfl; have a0 : W1.cell? ⟨Q, 0, none⟩ = some (.int .i64 0) := (blk_cell BQ.out 0).trans rfl; have a1 : W1.cell? ⟨Q, 1, none⟩ = some (.int .i64 0) := (blk_cell BQ.out 1).trans rfl; have a2 : W1.cell? ⟨Q, 2, none⟩ = some (.int .i64 0) := (blk_cell BQ.out 2).trans rfl; have a3 : W1.cell? ⟨Q, 3, none⟩ = some (.int .i64 0) := (blk_cell BQ.out 3).trans rfl; have fr0 := blk_frozen BR.out 0; have fr1 := blk_frozen BR.out 1; have fr2 := blk_frozen BR.out 2; have fr3 := blk_frozen BR.out 3; have fr4 := blk_frozen BR.out 4; have fr5 := blk_frozen BR.out 5; have fr6 := blk_frozen BR.out 6; have fa0 := blk_frozen BQ.out 0; have fa1 := blk_frozen BQ.out 1; have fa2 := blk_frozen BQ.out 2; have fa3 := blk_frozen BQ.out 3)
      | (clear tokB_; go_at_call 39; refine (num_GetSigned.calls k A1 (c0 - p2.toNat) l1 q1 q2 _ (Kd.C_below HR1.out (below_set (below_set HBW.out HGR.out) HGQ.out)) HC1.out HQ.out).mono ?_; rintro e W2 ⟨rfl, hb⟩; have n0 := Aside0.mk (blk_below (g := R) (o := .cells #[.int .i64 0, .int .i64 p1, .int .i64 0, .int .i64 0, .int .i64 0, .int .i64 0, .int .i64 0] 32 (0, 0)) (blk_far (blk_put BR.out 1 _ rfl) (p := ⟨Q, 0, none⟩) NRQ.out _) hb); have n1 := Aside0.mk (blk_below (g := Q) (o := .cells #[.int .i64 p2, .int .i64 0, .int .i64 0, .int .i64 0] 57 (0, 0)) (blk_put (blk_far BQ.out (p := ⟨R, 1, none⟩) (Ne.symm NRQ.out) _) 0 _ rfl) hb); have n2 := Aside0.mk (below_step (by repeat (first | exact HBW.out | (refine below_set ?_ HGR.out) | (refine below_set ?_ HGQ.out))) hb); clear BR BQ HBW hb; have BR := n0; have BQ := n1; have HBW := n2; clear n0 n1 n2; clear r0 r1 r2 r3 r4 r5 r6 a0 a1 a2 a3 fr0 fr1 fr2 fr3 fr4 fr5 fr6 fa0 fa1 fa2 fa3; have r0 : W2.cell? ⟨R, 0, none⟩ = some (.int .i64 0) := (blk_cell BR.out 0).trans rfl; have r1 : W2.cell? ⟨R, 1, none⟩ = some (.int .i64 p1) := (blk_cell BR.out 1).trans rfl; have r2 : W2.cell? ⟨R, 2, none⟩ = some (.int .i64 0) := (blk_cell BR.out 2).trans rfl; have r3 : W2.cell? ⟨R, 3, none⟩ = some (.int .i64 0) := (blk_cell BR.out 3).trans rfl; have r4 : W2.cell? ⟨R, 4, none⟩ = some (.int .i64 0) := (blk_cell BR.out 4).trans rfl; have r5 : W2.cell? ⟨R, 5, none⟩ = some (.int .i64 0) := (blk_cell BR.out 5).trans rfl; have r6 : W2.cell? ⟨R, 6, none⟩ = some (.int .i64 0) := (blk_cell BR.out 6).trans rfl; have a0 : W2.cell? ⟨Q, 0, none⟩ = some (.int .i64 p2) := (blk_cell BQ.out 0).trans rfl; have a1 : W2.cell? ⟨Q, 1, none⟩ = some (.int .i64 0) := (blk_cell BQ.out 1).trans rfl; have a2 : W2.cell? ⟨Q, 2, none⟩ = some (.int .i64 0) := (blk_cell BQ.out 2).trans rfl; have a3 : W2.cell? ⟨Q, 3, none⟩ = some (.int .i64 0) := (blk_cell BQ.out 3).trans rfl; have fr0 := blk_frozen BR.out 0; have fr1 := blk_frozen BR.out 1; have fr2 := blk_frozen BR.out 2; have fr3 := blk_frozen BR.out 3; have fr4 := blk_frozen BR.out 4; have fr5 := blk_frozen BR.out 5; have fr6 := blk_frozen BR.out 6; have fa0 := blk_frozen BQ.out 0; have fa1 := blk_frozen BQ.out 1; have fa2 := blk_frozen BQ.out 2; have fa3 := blk_frozen BQ.out 3)
      | (clear tokC_; go_at_call 40; refine (codec_GetOp.calls k A2 (c0 - p2.toNat - q2.toNat) l2 o1 o2 o3 o4 _ (Kd.C_below HR2.out (below_set (below_set HBW.out HGR.out) HGQ.out)) HC2.out HOp.out).mono ?_; rintro e W3 ⟨rfl, hb⟩; have n0 := Aside0.mk (blk_below (g := R) (o := .cells #[.int .i64 0, .int .i64 p1, .int .i64 q1, .int .i64 0, .int .i64 0, .int .i64 0, .int .i64 0] 32 (0, 0)) (blk_far (blk_put BR.out 2 _ rfl) (p := ⟨Q, 1, none⟩) NRQ.out _) hb); have n1 := Aside0.mk (blk_below (g := Q) (o := .cells #[.int .i64 p2, .int .i64 q2, .int .i64 0, .int .i64 0] 57 (0, 0)) (blk_put (blk_far BQ.out (p := ⟨R, 2, none⟩) (Ne.symm NRQ.out) _) 1 _ rfl) hb); have n2 := Aside0.mk (below_step (by repeat (first | exact HBW.out | (refine below_set ?_ HGR.out) | (refine below_set ?_ HGQ.out))) hb); clear BR BQ HBW hb; have BR := n0; have BQ := n1; have HBW := n2; clear n0 n1 n2; clear r0 r1 r2 r3 r4 r5 r6 a0 a1 a2 a3 fr0 fr1 fr2 fr3 fr4 fr5 fr6 fa0 fa1 fa2 fa3; have r0 : W3.cell? ⟨R, 0, none⟩ = some (.int .i64 0) := (blk_cell BR.out 0).trans rfl; have r1 : W3.cell? ⟨R, 1, none⟩ = some (.int .i64 p1) := (blk_cell BR.out 1).trans rfl; have r2 : W3.cell? ⟨R, 2, none⟩ = some (.int .i64 q1) := (blk_cell BR.out 2).trans rfl; have r3 : W3.cell? ⟨R, 3, none⟩ = some (.int .i64 0) := (blk_cell BR.out 3).trans rfl; have r4 : W3.cell? ⟨R, 4, none⟩ = some (.int .i64 0) := (blk_cell BR.out 4).trans rfl; have r5 : W3.cell? ⟨R, 5, none⟩ = some (.int .i64 0) := (blk_cell BR.out 5).trans rfl; have r6 : W3.cell? ⟨R, 6, none⟩ = some (.int .i64 0) := (blk_cell BR.out 6).trans rfl; have a0 : W3.cell? ⟨Q, 0, none⟩ = some (.int .i64 p2) := (blk_cell BQ.out 0).trans rfl; have a1 : W3.cell? ⟨Q, 1, none⟩ = some (.int .i64 q2) := (blk_cell BQ.out 1).trans rfl; have a2 : W3.cell? ⟨Q, 2, none⟩ = some (.int .i64 0) := (blk_cell BQ.out 2).trans rfl; have a3 : W3.cell? ⟨Q, 3, none⟩ = some (.int .i64 0) := (blk_cell BQ.out 3).trans rfl; have fr0 := blk_frozen BR.out 0; have fr1 := blk_frozen BR.out 1; have fr2 := blk_frozen BR.out 2; have fr3 := blk_frozen BR.out 3; have fr4 := blk_frozen BR.out 4; have fr5 := blk_frozen BR.out 5; have fr6 := blk_frozen BR.out 6; have fa0 := blk_frozen BQ.out 0; have fa1 := blk_frozen BQ.out 1; have fa2 := blk_frozen BQ.out 2; have fa3 := blk_frozen BQ.out 3)
      | (clear tokD_; go_at_call 39; refine (num_GetSigned.calls k A3 (c0 - p2.toNat - q2.toNat - o4.toNat) l3 s1 s2 _ (Kd.C_below HR3.out (below_set (below_set (below_set (below_set HBW.out HGR.out) HGR.out) HGR.out) HGQ.out)) HC3.out HS.out).mono ?_; rintro e W4 ⟨rfl, hb⟩; have n0 := Aside0.mk (blk_below (g := R) (o := .cells #[.int .i64 0, .int .i64 p1, .int .i64 q1, .int .i64 o1, .int .i64 o2, .int .i64 o3, .int .i64 0] 32 (0, 0)) (blk_far (block_record.put3 BR.out) (p := ⟨Q, 2, none⟩) NRQ.out _) hb); have n1 := Aside0.mk (blk_below (g := Q) (o := .cells #[.int .i64 p2, .int .i64 q2, .int .i64 o4, .int .i64 0] 57 (0, 0)) (blk_put (blk_far (blk_far (blk_far BQ.out (p := ⟨R, 3, none⟩) (Ne.symm NRQ.out) _) (p := ⟨R, 4, none⟩) (Ne.symm NRQ.out) _) (p := ⟨R, 5, none⟩) (Ne.symm NRQ.out) _) 2 _ rfl) hb); have n2 := Aside0.mk (below_step (by repeat (first | exact HBW.out | (refine below_set ?_ HGR.out) | (refine below_set ?_ HGQ.out))) hb); clear BR BQ HBW hb; have BR := n0; have BQ := n1; have HBW := n2; clear n0 n1 n2; clear r0 r1 r2 r3 r4 r5 r6 a0 a1 a2 a3 fr0 fr1 fr2 fr3 fr4 fr5 fr6 fa0 fa1 fa2 fa3; have r0 : W4.cell? ⟨R, 0, none⟩ = some (.int .i64 0) := (blk_cell BR.out 0).trans rfl; have r1 : W4.cell? ⟨R, 1, none⟩ = some (.int .i64 p1) := (blk_cell BR.out 1).trans rfl; have r2 : W4.cell? ⟨R, 2, none⟩ = some (.int .i64 q1) := (blk_cell BR.out 2).trans rfl; have r3 : W4.cell? ⟨R, 3, none⟩ = some (.int .i64 o1) := (blk_cell BR.out 3).trans rfl; have r4 : W4.cell? ⟨R, 4, none⟩ = some (.int .i64 o2) := (blk_cell BR.out 4).trans rfl; have r5 : W4.cell? ⟨R, 5, none⟩ = some (.int .i64 o3) := (blk_cell BR.out 5).trans rfl; have r6 : W4.cell? ⟨R, 6, none⟩ = some (.int .i64 0) := (blk_cell BR.out 6).trans rfl; have a0 : W4.cell? ⟨Q, 0, none⟩ = some (.int .i64 p2) := (blk_cell BQ.out 0).trans rfl; have a1 : W4.cell? ⟨Q, 1, none⟩ = some (.int .i64 q2) := (blk_cell BQ.out 1).trans rfl; have a2 : W4.cell? ⟨Q, 2, none⟩ = some (.int .i64 o4) := (blk_cell BQ.out 2).trans rfl; have a3 : W4.cell? ⟨Q, 3, none⟩ = some (.int .i64 0) := (blk_cell BQ.out 3).trans rfl; have fr0 := blk_frozen BR.out 0; have fr1 := blk_frozen BR.out 1; have fr2 := blk_frozen BR.out 2; have fr3 := blk_frozen BR.out 3; have fr4 := blk_frozen BR.out 4; have fr5 := blk_frozen BR.out 5; have fr6 := blk_frozen BR.out 6; have fa0 := blk_frozen BQ.out 0; have fa1 := blk_frozen BQ.out 1; have fa2 := blk_frozen BQ.out 2; have fa3 := blk_frozen BQ.out 3))
    refine wp_loop_rounds 5 ?_
    repeat any_goals (rw [rounds_succ]; go_wp2)
    refine bodyPost_ret (results_ct rfl _ _ R 32 (block_record.cs z32) (0, 0) _ rfl (block_record.put7 (blk_far (blk_put BR.out 6 _ rfl) (p := ⟨Q, 3, none⟩) NRQ.out _)) Try.underlying32 rfl (by kernel_rfl)) rfl ⟨rfl, ?_⟩
    exact block_record.below7 (below_set (below_set HBW.out HGR.out) HGQ.out) HGR.out
  have t2 : (o4 == 0) = false := beq_eq_false_iff_ne.mpr z2
  by_cases z3 : s2 = 0
  · have t3 : (s2 == 0) = true := beq_iff_eq.mpr z3
    have h := H.out
    unfold block_record.of at h
    rw [if_pos (by simp only; omega)] at h
    simp only [Prod.mk.injEq] at h
    obtain ⟨rfl, rfl⟩ := h
    clear z3
    go_enter Try.func28, Try.ntmps28
    have tokA_ : True := trivial
    have tokB_ : True := trivial
    have tokC_ : True := trivial
    have tokD_ : True := trivial
    go_wp2_with (first
      | ((with_reducible refine gate_dst (N := 2) rfl ?_); refine box_event ?hg (N := 2) ?hd (cs := #[.int .i64 0, .int .i64 0, .int .i64 0, .int .i64 0, .int .i64 0, .int .i64 0, .int .i64 0]) (t := 32) ?hr ?_; (case hd => rfl); (case hg => rfl); (case hr => first | (go_simp; done) | (go_simp; rfl)); intro R hg Wb hbox hb; have BR := Aside0.mk hbox; have HBW := Aside0.mk (below_step HB.out hb); have HGR := Aside0.mk (show w.heap.size ≤ R by rw [hg]; exact below_size HB.out); clear hg hbox hb)
      | ((with_reducible refine gate_dst (N := 4) rfl ?_); refine box_event ?hg (N := 4) ?hd (cs := #[.int .i64 0, .int .i64 0, .int .i64 0, .int .i64 0]) (t := 57) ?hr ?_; (case hd => rfl); (case hg => rfl); (case hr => first | (go_simp; done) | (go_simp; rfl)); intro Q hg Wc hbox hb; have NRQ := Aside0.mk (show R ≠ Q by rw [hg]; exact Nat.ne_of_lt (blk_lt BR.out)); have HGQ := Aside0.mk (show w.heap.size ≤ Q by rw [hg]; exact below_size HBW.out); have n0 := Aside0.mk (blk_below BR.out hb); have BQ := Aside0.mk hbox; have n2 := Aside0.mk (below_step HBW.out hb); clear BR HBW hg hbox hb; have BR := n0; have HBW := n2; clear n0 n2; have nrq := NRQ.out; have nqr := Ne.symm NRQ.out; have r0 : Wc.cell? ⟨R, 0, none⟩ = some (.int .i64 0) := (blk_cell BR.out 0).trans rfl; have r1 : Wc.cell? ⟨R, 1, none⟩ = some (.int .i64 0) := (blk_cell BR.out 1).trans rfl; have r2 : Wc.cell? ⟨R, 2, none⟩ = some (.int .i64 0) := (blk_cell BR.out 2).trans rfl; have r3 : Wc.cell? ⟨R, 3, none⟩ = some (.int .i64 0) := (blk_cell BR.out 3).trans rfl; have r4 : Wc.cell? ⟨R, 4, none⟩ = some (.int .i64 0) := (blk_cell BR.out 4).trans rfl; have r5 : Wc.cell? ⟨R, 5, none⟩ = some (.int .i64 0) := (blk_cell BR.out 5).trans rfl; have r6 : Wc.cell? ⟨R, 6, none⟩ = some (.int .i64 0) := (blk_cell BR.out 6).trans rfl; have a0 : Wc.cell? ⟨Q, 0, none⟩ = some (.int .i64 0) := (blk_cell BQ.out 0).trans rfl; have a1 : Wc.cell? ⟨Q, 1, none⟩ = some (.int .i64 0) := (blk_cell BQ.out 1).trans rfl; have a2 : Wc.cell? ⟨Q, 2, none⟩ = some (.int .i64 0) := (blk_cell BQ.out 2).trans rfl; have a3 : Wc.cell? ⟨Q, 3, none⟩ = some (.int .i64 0) := (blk_cell BQ.out 3).trans rfl; have fr0 := blk_frozen BR.out 0; have fr1 := blk_frozen BR.out 1; have fr2 := blk_frozen BR.out 2; have fr3 := blk_frozen BR.out 3; have fr4 := blk_frozen BR.out 4; have fr5 := blk_frozen BR.out 5; have fr6 := blk_frozen BR.out 6; have fa0 := blk_frozen BQ.out 0; have fa1 := blk_frozen BQ.out 1; have fa2 := blk_frozen BQ.out 2; have fa3 := blk_frozen BQ.out 3)
      | (clear tokA_; go_at_call 27; refine (num_Get.calls k A0 c0 l0 p1 p2 _ (Kd.C_below HR0.out HBW.out) HC0.out HP.out).mono ?_; rintro e W1 ⟨rfl, hb⟩; have n0 := Aside0.mk (blk_below (g := R) (o := .cells #[.int .i64 0, .int .i64 0, .int .i64 0, .int .i64 0, .int .i64 0, .int .i64 0, .int .i64 0] 32 (0, 0)) (BR.out) hb); have n1 := Aside0.mk (blk_below (g := Q) (o := .cells #[.int .i64 0, .int .i64 0, .int .i64 0, .int .i64 0] 57 (0, 0)) (BQ.out) hb); have n2 := Aside0.mk (below_step (by repeat (first | exact HBW.out | (refine below_set ?_ HGR.out) | (refine below_set ?_ HGQ.out))) hb); clear BR BQ HBW hb; have BR := n0; have BQ := n1; have HBW := n2; clear n0 n1 n2; clear r0 r1 r2 r3 r4 r5 r6 a0 a1 a2 a3 fr0 fr1 fr2 fr3 fr4 fr5 fr6 fa0 fa1 fa2 fa3; have r0 : W1.cell? ⟨R, 0, none⟩ = some (.int .i64 0) := (blk_cell BR.out 0).trans rfl; have r1 : W1.cell? ⟨R, 1, none⟩ = some (.int .i64 0) := (blk_cell BR.out 1).trans rfl; have r2 : W1.cell? ⟨R, 2, none⟩ = some (.int .i64 0) := (blk_cell BR.out 2).trans rfl; have r3 : W1.cell? ⟨R, 3, none⟩ = some (.int .i64 0) := (blk_cell BR.out 3).trans rfl; have r4 : W1.cell? ⟨R, 4, none⟩ = some (.int .i64 0) := (blk_cell BR.out 4).trans rfl; have r5 : W1.cell? ⟨R, 5, none⟩ = some (.int .i64 0) := (blk_cell BR.out 5).trans rfl; have r6 : W1.cell? ⟨R, 6, none⟩ = some (.int .i64 0) := (blk_cell BR.out 6).trans rfl; have a0 : W1.cell? ⟨Q, 0, none⟩ = some (.int .i64 0) := (blk_cell BQ.out 0).trans rfl; have a1 : W1.cell? ⟨Q, 1, none⟩ = some (.int .i64 0) := (blk_cell BQ.out 1).trans rfl; have a2 : W1.cell? ⟨Q, 2, none⟩ = some (.int .i64 0) := (blk_cell BQ.out 2).trans rfl; have a3 : W1.cell? ⟨Q, 3, none⟩ = some (.int .i64 0) := (blk_cell BQ.out 3).trans rfl; have fr0 := blk_frozen BR.out 0; have fr1 := blk_frozen BR.out 1; have fr2 := blk_frozen BR.out 2; have fr3 := blk_frozen BR.out 3; have fr4 := blk_frozen BR.out 4; have fr5 := blk_frozen BR.out 5; have fr6 := blk_frozen BR.out 6; have fa0 := blk_frozen BQ.out 0; have fa1 := blk_frozen BQ.out 1; have fa2 := blk_frozen BQ.out 2; have fa3 := blk_frozen BQ.out 3)
      | (clear tokB_; go_at_call 39; refine (num_GetSigned.calls k A1 (c0 - p2.toNat) l1 q1 q2 _ (Kd.C_below HR1.out (below_set (below_set HBW.out HGR.out) HGQ.out)) HC1.out HQ.out).mono ?_; rintro e W2 ⟨rfl, hb⟩; have n0 := Aside0.mk (blk_below (g := R) (o := .cells #[.int .i64 0, .int .i64 p1, .int .i64 0, .int .i64 0, .int .i64 0, .int .i64 0, .int .i64 0] 32 (0, 0)) (blk_far (blk_put BR.out 1 _ rfl) (p := ⟨Q, 0, none⟩) NRQ.out _) hb); have n1 := Aside0.mk (blk_below (g := Q) (o := .cells #[.int .i64 p2, .int .i64 0, .int .i64 0, .int .i64 0] 57 (0, 0)) (blk_put (blk_far BQ.out (p := ⟨R, 1, none⟩) (Ne.symm NRQ.out) _) 0 _ rfl) hb); have n2 := Aside0.mk (below_step (by repeat (first | exact HBW.out | (refine below_set ?_ HGR.out) | (refine below_set ?_ HGQ.out))) hb); clear BR BQ HBW hb; have BR := n0; have BQ := n1; have HBW := n2; clear n0 n1 n2; clear r0 r1 r2 r3 r4 r5 r6 a0 a1 a2 a3 fr0 fr1 fr2 fr3 fr4 fr5 fr6 fa0 fa1 fa2 fa3; have r0 : W2.cell? ⟨R, 0, none⟩ = some (.int .i64 0) := (blk_cell BR.out 0).trans rfl; have r1 : W2.cell? ⟨R, 1, none⟩ = some (.int .i64 p1) := (blk_cell BR.out 1).trans rfl; have r2 : W2.cell? ⟨R, 2, none⟩ = some (.int .i64 0) := (blk_cell BR.out 2).trans rfl; have r3 : W2.cell? ⟨R, 3, none⟩ = some (.int .i64 0) := (blk_cell BR.out 3).trans rfl; have r4 : W2.cell? ⟨R, 4, none⟩ = some (.int .i64 0) := (blk_cell BR.out 4).trans rfl; have r5 : W2.cell? ⟨R, 5, none⟩ = some (.int .i64 0) := (blk_cell BR.out 5).trans rfl; have r6 : W2.cell? ⟨R, 6, none⟩ = some (.int .i64 0) := (blk_cell BR.out 6).trans rfl; have a0 : W2.cell? ⟨Q, 0, none⟩ = some (.int .i64 p2) := (blk_cell BQ.out 0).trans rfl; have a1 : W2.cell? ⟨Q, 1, none⟩ = some (.int .i64 0) := (blk_cell BQ.out 1).trans rfl; have a2 : W2.cell? ⟨Q, 2, none⟩ = some (.int .i64 0) := (blk_cell BQ.out 2).trans rfl; have a3 : W2.cell? ⟨Q, 3, none⟩ = some (.int .i64 0) := (blk_cell BQ.out 3).trans rfl; have fr0 := blk_frozen BR.out 0; have fr1 := blk_frozen BR.out 1; have fr2 := blk_frozen BR.out 2; have fr3 := blk_frozen BR.out 3; have fr4 := blk_frozen BR.out 4; have fr5 := blk_frozen BR.out 5; have fr6 := blk_frozen BR.out 6; have fa0 := blk_frozen BQ.out 0; have fa1 := blk_frozen BQ.out 1; have fa2 := blk_frozen BQ.out 2; have fa3 := blk_frozen BQ.out 3)
      | (clear tokC_; go_at_call 40; refine (codec_GetOp.calls k A2 (c0 - p2.toNat - q2.toNat) l2 o1 o2 o3 o4 _ (Kd.C_below HR2.out (below_set (below_set HBW.out HGR.out) HGQ.out)) HC2.out HOp.out).mono ?_; rintro e W3 ⟨rfl, hb⟩; have n0 := Aside0.mk (blk_below (g := R) (o := .cells #[.int .i64 0, .int .i64 p1, .int .i64 q1, .int .i64 0, .int .i64 0, .int .i64 0, .int .i64 0] 32 (0, 0)) (blk_far (blk_put BR.out 2 _ rfl) (p := ⟨Q, 1, none⟩) NRQ.out _) hb); have n1 := Aside0.mk (blk_below (g := Q) (o := .cells #[.int .i64 p2, .int .i64 q2, .int .i64 0, .int .i64 0] 57 (0, 0)) (blk_put (blk_far BQ.out (p := ⟨R, 2, none⟩) (Ne.symm NRQ.out) _) 1 _ rfl) hb); have n2 := Aside0.mk (below_step (by repeat (first | exact HBW.out | (refine below_set ?_ HGR.out) | (refine below_set ?_ HGQ.out))) hb); clear BR BQ HBW hb; have BR := n0; have BQ := n1; have HBW := n2; clear n0 n1 n2; clear r0 r1 r2 r3 r4 r5 r6 a0 a1 a2 a3 fr0 fr1 fr2 fr3 fr4 fr5 fr6 fa0 fa1 fa2 fa3; have r0 : W3.cell? ⟨R, 0, none⟩ = some (.int .i64 0) := (blk_cell BR.out 0).trans rfl; have r1 : W3.cell? ⟨R, 1, none⟩ = some (.int .i64 p1) := (blk_cell BR.out 1).trans rfl; have r2 : W3.cell? ⟨R, 2, none⟩ = some (.int .i64 q1) := (blk_cell BR.out 2).trans rfl; have r3 : W3.cell? ⟨R, 3, none⟩ = some (.int .i64 0) := (blk_cell BR.out 3).trans rfl; have r4 : W3.cell? ⟨R, 4, none⟩ = some (.int .i64 0) := (blk_cell BR.out 4).trans rfl; have r5 : W3.cell? ⟨R, 5, none⟩ = some (.int .i64 0) := (blk_cell BR.out 5).trans rfl; have r6 : W3.cell? ⟨R, 6, none⟩ = some (.int .i64 0) := (blk_cell BR.out 6).trans rfl; have a0 : W3.cell? ⟨Q, 0, none⟩ = some (.int .i64 p2) := (blk_cell BQ.out 0).trans rfl; have a1 : W3.cell? ⟨Q, 1, none⟩ = some (.int .i64 q2) := (blk_cell BQ.out 1).trans rfl; have a2 : W3.cell? ⟨Q, 2, none⟩ = some (.int .i64 0) := (blk_cell BQ.out 2).trans rfl; have a3 : W3.cell? ⟨Q, 3, none⟩ = some (.int .i64 0) := (blk_cell BQ.out 3).trans rfl; have fr0 := blk_frozen BR.out 0; have fr1 := blk_frozen BR.out 1; have fr2 := blk_frozen BR.out 2; have fr3 := blk_frozen BR.out 3; have fr4 := blk_frozen BR.out 4; have fr5 := blk_frozen BR.out 5; have fr6 := blk_frozen BR.out 6; have fa0 := blk_frozen BQ.out 0; have fa1 := blk_frozen BQ.out 1; have fa2 := blk_frozen BQ.out 2; have fa3 := blk_frozen BQ.out 3)
      | (clear tokD_; go_at_call 39; refine (num_GetSigned.calls k A3 (c0 - p2.toNat - q2.toNat - o4.toNat) l3 s1 s2 _ (Kd.C_below HR3.out (below_set (below_set (below_set (below_set HBW.out HGR.out) HGR.out) HGR.out) HGQ.out)) HC3.out HS.out).mono ?_; rintro e W4 ⟨rfl, hb⟩; have n0 := Aside0.mk (blk_below (g := R) (o := .cells #[.int .i64 0, .int .i64 p1, .int .i64 q1, .int .i64 o1, .int .i64 o2, .int .i64 o3, .int .i64 0] 32 (0, 0)) (blk_far (block_record.put3 BR.out) (p := ⟨Q, 2, none⟩) NRQ.out _) hb); have n1 := Aside0.mk (blk_below (g := Q) (o := .cells #[.int .i64 p2, .int .i64 q2, .int .i64 o4, .int .i64 0] 57 (0, 0)) (blk_put (blk_far (blk_far (blk_far BQ.out (p := ⟨R, 3, none⟩) (Ne.symm NRQ.out) _) (p := ⟨R, 4, none⟩) (Ne.symm NRQ.out) _) (p := ⟨R, 5, none⟩) (Ne.symm NRQ.out) _) 2 _ rfl) hb); have n2 := Aside0.mk (below_step (by repeat (first | exact HBW.out | (refine below_set ?_ HGR.out) | (refine below_set ?_ HGQ.out))) hb); clear BR BQ HBW hb; have BR := n0; have BQ := n1; have HBW := n2; clear n0 n1 n2; clear r0 r1 r2 r3 r4 r5 r6 a0 a1 a2 a3 fr0 fr1 fr2 fr3 fr4 fr5 fr6 fa0 fa1 fa2 fa3; have r0 : W4.cell? ⟨R, 0, none⟩ = some (.int .i64 0) := (blk_cell BR.out 0).trans rfl; have r1 : W4.cell? ⟨R, 1, none⟩ = some (.int .i64 p1) := (blk_cell BR.out 1).trans rfl; have r2 : W4.cell? ⟨R, 2, none⟩ = some (.int .i64 q1) := (blk_cell BR.out 2).trans rfl; have r3 : W4.cell? ⟨R, 3, none⟩ = some (.int .i64 o1) := (blk_cell BR.out 3).trans rfl; have r4 : W4.cell? ⟨R, 4, none⟩ = some (.int .i64 o2) := (blk_cell BR.out 4).trans rfl; have r5 : W4.cell? ⟨R, 5, none⟩ = some (.int .i64 o3) := (blk_cell BR.out 5).trans rfl; have r6 : W4.cell? ⟨R, 6, none⟩ = some (.int .i64 0) := (blk_cell BR.out 6).trans rfl; have a0 : W4.cell? ⟨Q, 0, none⟩ = some (.int .i64 p2) := (blk_cell BQ.out 0).trans rfl; have a1 : W4.cell? ⟨Q, 1, none⟩ = some (.int .i64 q2) := (blk_cell BQ.out 1).trans rfl; have a2 : W4.cell? ⟨Q, 2, none⟩ = some (.int .i64 o4) := (blk_cell BQ.out 2).trans rfl; have a3 : W4.cell? ⟨Q, 3, none⟩ = some (.int .i64 0) := (blk_cell BQ.out 3).trans rfl; have fr0 := blk_frozen BR.out 0; have fr1 := blk_frozen BR.out 1; have fr2 := blk_frozen BR.out 2; have fr3 := blk_frozen BR.out 3; have fr4 := blk_frozen BR.out 4; have fr5 := blk_frozen BR.out 5; have fr6 := blk_frozen BR.out 6; have fa0 := blk_frozen BQ.out 0; have fa1 := blk_frozen BQ.out 1; have fa2 := blk_frozen BQ.out 2; have fa3 := blk_frozen BQ.out 3))
    refine wp_loop_rounds 5 ?_
    repeat any_goals (rw [rounds_succ]; go_wp2)
    refine bodyPost_ret (results_ct rfl _ _ R 32 (block_record.cs z32) (0, 0) _ rfl (block_record.put7 (blk_far (blk_put BR.out 6 _ rfl) (p := ⟨Q, 3, none⟩) NRQ.out _)) Try.underlying32 rfl (by kernel_rfl)) rfl ⟨rfl, ?_⟩
    exact block_record.below7 (below_set (below_set HBW.out HGR.out) HGQ.out) HGR.out
  have t3 : (s2 == 0) = false := beq_eq_false_iff_ne.mpr z3
  have h := H.out
  unfold block_record.of at h
  rw [if_neg (by simp only; omega)] at h
  simp only [Prod.mk.injEq] at h
  obtain ⟨rfl, rfl⟩ := h
  have hX := HX.out
  clear z0 z1 z2 z3
  go_enter Try.func28, Try.ntmps28
  have tokA_ : True := trivial
  have tokB_ : True := trivial
  have tokC_ : True := trivial
  have tokD_ : True := trivial
  go_wp2_with (first
    | ((with_reducible refine gate_dst (N := 2) rfl ?_); refine box_event ?hg (N := 2) ?hd (cs := #[.int .i64 0, .int .i64 0, .int .i64 0, .int .i64 0, .int .i64 0, .int .i64 0, .int .i64 0]) (t := 32) ?hr ?_; (case hd => rfl); (case hg => rfl); (case hr => first | (go_simp; done) | (go_simp; rfl)); intro R hg Wb hbox hb; have BR := Aside0.mk hbox; have HBW := Aside0.mk (below_step HB.out hb); have HGR := Aside0.mk (show w.heap.size ≤ R by rw [hg]; exact below_size HB.out); clear hg hbox hb)
    | ((with_reducible refine gate_dst (N := 4) rfl ?_); refine box_event ?hg (N := 4) ?hd (cs := #[.int .i64 0, .int .i64 0, .int .i64 0, .int .i64 0]) (t := 57) ?hr ?_; (case hd => rfl); (case hg => rfl); (case hr => first | (go_simp; done) | (go_simp; rfl)); intro Q hg Wc hbox hb; have NRQ := Aside0.mk (show R ≠ Q by rw [hg]; exact Nat.ne_of_lt (blk_lt BR.out)); have HGQ := Aside0.mk (show w.heap.size ≤ Q by rw [hg]; exact below_size HBW.out); have n0 := Aside0.mk (blk_below BR.out hb); have BQ := Aside0.mk hbox; have n2 := Aside0.mk (below_step HBW.out hb); clear BR HBW hg hbox hb; have BR := n0; have HBW := n2; clear n0 n2; have nrq := NRQ.out; have nqr := Ne.symm NRQ.out; have r0 : Wc.cell? ⟨R, 0, none⟩ = some (.int .i64 0) := (blk_cell BR.out 0).trans rfl; have r1 : Wc.cell? ⟨R, 1, none⟩ = some (.int .i64 0) := (blk_cell BR.out 1).trans rfl; have r2 : Wc.cell? ⟨R, 2, none⟩ = some (.int .i64 0) := (blk_cell BR.out 2).trans rfl; have r3 : Wc.cell? ⟨R, 3, none⟩ = some (.int .i64 0) := (blk_cell BR.out 3).trans rfl; have r4 : Wc.cell? ⟨R, 4, none⟩ = some (.int .i64 0) := (blk_cell BR.out 4).trans rfl; have r5 : Wc.cell? ⟨R, 5, none⟩ = some (.int .i64 0) := (blk_cell BR.out 5).trans rfl; have r6 : Wc.cell? ⟨R, 6, none⟩ = some (.int .i64 0) := (blk_cell BR.out 6).trans rfl; have a0 : Wc.cell? ⟨Q, 0, none⟩ = some (.int .i64 0) := (blk_cell BQ.out 0).trans rfl; have a1 : Wc.cell? ⟨Q, 1, none⟩ = some (.int .i64 0) := (blk_cell BQ.out 1).trans rfl; have a2 : Wc.cell? ⟨Q, 2, none⟩ = some (.int .i64 0) := (blk_cell BQ.out 2).trans rfl; have a3 : Wc.cell? ⟨Q, 3, none⟩ = some (.int .i64 0) := (blk_cell BQ.out 3).trans rfl; have fr0 := blk_frozen BR.out 0; have fr1 := blk_frozen BR.out 1; have fr2 := blk_frozen BR.out 2; have fr3 := blk_frozen BR.out 3; have fr4 := blk_frozen BR.out 4; have fr5 := blk_frozen BR.out 5; have fr6 := blk_frozen BR.out 6; have fa0 := blk_frozen BQ.out 0; have fa1 := blk_frozen BQ.out 1; have fa2 := blk_frozen BQ.out 2; have fa3 := blk_frozen BQ.out 3)
    | (clear tokA_; go_at_call 27; refine (num_Get.calls k A0 c0 l0 p1 p2 _ (Kd.C_below HR0.out HBW.out) HC0.out HP.out).mono ?_; rintro e W1 ⟨rfl, hb⟩; have n0 := Aside0.mk (blk_below (g := R) (o := .cells #[.int .i64 0, .int .i64 0, .int .i64 0, .int .i64 0, .int .i64 0, .int .i64 0, .int .i64 0] 32 (0, 0)) (BR.out) hb); have n1 := Aside0.mk (blk_below (g := Q) (o := .cells #[.int .i64 0, .int .i64 0, .int .i64 0, .int .i64 0] 57 (0, 0)) (BQ.out) hb); have n2 := Aside0.mk (below_step (by repeat (first | exact HBW.out | (refine below_set ?_ HGR.out) | (refine below_set ?_ HGQ.out))) hb); clear BR BQ HBW hb; have BR := n0; have BQ := n1; have HBW := n2; clear n0 n1 n2; clear r0 r1 r2 r3 r4 r5 r6 a0 a1 a2 a3 fr0 fr1 fr2 fr3 fr4 fr5 fr6 fa0 fa1 fa2 fa3; have r0 : W1.cell? ⟨R, 0, none⟩ = some (.int .i64 0) := (blk_cell BR.out 0).trans rfl; have r1 : W1.cell? ⟨R, 1, none⟩ = some (.int .i64 0) := (blk_cell BR.out 1).trans rfl; have r2 : W1.cell? ⟨R, 2, none⟩ = some (.int .i64 0) := (blk_cell BR.out 2).trans rfl; have r3 : W1.cell? ⟨R, 3, none⟩ = some (.int .i64 0) := (blk_cell BR.out 3).trans rfl; have r4 : W1.cell? ⟨R, 4, none⟩ = some (.int .i64 0) := (blk_cell BR.out 4).trans rfl; have r5 : W1.cell? ⟨R, 5, none⟩ = some (.int .i64 0) := (blk_cell BR.out 5).trans rfl; have r6 : W1.cell? ⟨R, 6, none⟩ = some (.int .i64 0) := (blk_cell BR.out 6).trans rfl; have a0 : W1.cell? ⟨Q, 0, none⟩ = some (.int .i64 0) := (blk_cell BQ.out 0).trans rfl; have a1 : W1.cell? ⟨Q, 1, none⟩ = some (.int .i64 0) := (blk_cell BQ.out 1).trans rfl; have a2 : W1.cell? ⟨Q, 2, none⟩ = some (.int .i64 0) := (blk_cell BQ.out 2).trans rfl; have a3 : W1.cell? ⟨Q, 3, none⟩ = some (.int .i64 0) := (blk_cell BQ.out 3).trans rfl; have fr0 := blk_frozen BR.out 0; have fr1 := blk_frozen BR.out 1; have fr2 := blk_frozen BR.out 2; have fr3 := blk_frozen BR.out 3; have fr4 := blk_frozen BR.out 4; have fr5 := blk_frozen BR.out 5; have fr6 := blk_frozen BR.out 6; have fa0 := blk_frozen BQ.out 0; have fa1 := blk_frozen BQ.out 1; have fa2 := blk_frozen BQ.out 2; have fa3 := blk_frozen BQ.out 3)
    | (clear tokB_; go_at_call 39; refine (num_GetSigned.calls k A1 (c0 - p2.toNat) l1 q1 q2 _ (Kd.C_below HR1.out (below_set (below_set HBW.out HGR.out) HGQ.out)) HC1.out HQ.out).mono ?_; rintro e W2 ⟨rfl, hb⟩; have n0 := Aside0.mk (blk_below (g := R) (o := .cells #[.int .i64 0, .int .i64 p1, .int .i64 0, .int .i64 0, .int .i64 0, .int .i64 0, .int .i64 0] 32 (0, 0)) (blk_far (blk_put BR.out 1 _ rfl) (p := ⟨Q, 0, none⟩) NRQ.out _) hb); have n1 := Aside0.mk (blk_below (g := Q) (o := .cells #[.int .i64 p2, .int .i64 0, .int .i64 0, .int .i64 0] 57 (0, 0)) (blk_put (blk_far BQ.out (p := ⟨R, 1, none⟩) (Ne.symm NRQ.out) _) 0 _ rfl) hb); have n2 := Aside0.mk (below_step (by repeat (first | exact HBW.out | (refine below_set ?_ HGR.out) | (refine below_set ?_ HGQ.out))) hb); clear BR BQ HBW hb; have BR := n0; have BQ := n1; have HBW := n2; clear n0 n1 n2; clear r0 r1 r2 r3 r4 r5 r6 a0 a1 a2 a3 fr0 fr1 fr2 fr3 fr4 fr5 fr6 fa0 fa1 fa2 fa3; have r0 : W2.cell? ⟨R, 0, none⟩ = some (.int .i64 0) := (blk_cell BR.out 0).trans rfl; have r1 : W2.cell? ⟨R, 1, none⟩ = some (.int .i64 p1) := (blk_cell BR.out 1).trans rfl; have r2 : W2.cell? ⟨R, 2, none⟩ = some (.int .i64 0) := (blk_cell BR.out 2).trans rfl; have r3 : W2.cell? ⟨R, 3, none⟩ = some (.int .i64 0) := (blk_cell BR.out 3).trans rfl; have r4 : W2.cell? ⟨R, 4, none⟩ = some (.int .i64 0) := (blk_cell BR.out 4).trans rfl; have r5 : W2.cell? ⟨R, 5, none⟩ = some (.int .i64 0) := (blk_cell BR.out 5).trans rfl; have r6 : W2.cell? ⟨R, 6, none⟩ = some (.int .i64 0) := (blk_cell BR.out 6).trans rfl; have a0 : W2.cell? ⟨Q, 0, none⟩ = some (.int .i64 p2) := (blk_cell BQ.out 0).trans rfl; have a1 : W2.cell? ⟨Q, 1, none⟩ = some (.int .i64 0) := (blk_cell BQ.out 1).trans rfl; have a2 : W2.cell? ⟨Q, 2, none⟩ = some (.int .i64 0) := (blk_cell BQ.out 2).trans rfl; have a3 : W2.cell? ⟨Q, 3, none⟩ = some (.int .i64 0) := (blk_cell BQ.out 3).trans rfl; have fr0 := blk_frozen BR.out 0; have fr1 := blk_frozen BR.out 1; have fr2 := blk_frozen BR.out 2; have fr3 := blk_frozen BR.out 3; have fr4 := blk_frozen BR.out 4; have fr5 := blk_frozen BR.out 5; have fr6 := blk_frozen BR.out 6; have fa0 := blk_frozen BQ.out 0; have fa1 := blk_frozen BQ.out 1; have fa2 := blk_frozen BQ.out 2; have fa3 := blk_frozen BQ.out 3)
    | (clear tokC_; go_at_call 40; refine (codec_GetOp.calls k A2 (c0 - p2.toNat - q2.toNat) l2 o1 o2 o3 o4 _ (Kd.C_below HR2.out (below_set (below_set HBW.out HGR.out) HGQ.out)) HC2.out HOp.out).mono ?_; rintro e W3 ⟨rfl, hb⟩; have n0 := Aside0.mk (blk_below (g := R) (o := .cells #[.int .i64 0, .int .i64 p1, .int .i64 q1, .int .i64 0, .int .i64 0, .int .i64 0, .int .i64 0] 32 (0, 0)) (blk_far (blk_put BR.out 2 _ rfl) (p := ⟨Q, 1, none⟩) NRQ.out _) hb); have n1 := Aside0.mk (blk_below (g := Q) (o := .cells #[.int .i64 p2, .int .i64 q2, .int .i64 0, .int .i64 0] 57 (0, 0)) (blk_put (blk_far BQ.out (p := ⟨R, 2, none⟩) (Ne.symm NRQ.out) _) 1 _ rfl) hb); have n2 := Aside0.mk (below_step (by repeat (first | exact HBW.out | (refine below_set ?_ HGR.out) | (refine below_set ?_ HGQ.out))) hb); clear BR BQ HBW hb; have BR := n0; have BQ := n1; have HBW := n2; clear n0 n1 n2; clear r0 r1 r2 r3 r4 r5 r6 a0 a1 a2 a3 fr0 fr1 fr2 fr3 fr4 fr5 fr6 fa0 fa1 fa2 fa3; have r0 : W3.cell? ⟨R, 0, none⟩ = some (.int .i64 0) := (blk_cell BR.out 0).trans rfl; have r1 : W3.cell? ⟨R, 1, none⟩ = some (.int .i64 p1) := (blk_cell BR.out 1).trans rfl; have r2 : W3.cell? ⟨R, 2, none⟩ = some (.int .i64 q1) := (blk_cell BR.out 2).trans rfl; have r3 : W3.cell? ⟨R, 3, none⟩ = some (.int .i64 0) := (blk_cell BR.out 3).trans rfl; have r4 : W3.cell? ⟨R, 4, none⟩ = some (.int .i64 0) := (blk_cell BR.out 4).trans rfl; have r5 : W3.cell? ⟨R, 5, none⟩ = some (.int .i64 0) := (blk_cell BR.out 5).trans rfl; have r6 : W3.cell? ⟨R, 6, none⟩ = some (.int .i64 0) := (blk_cell BR.out 6).trans rfl; have a0 : W3.cell? ⟨Q, 0, none⟩ = some (.int .i64 p2) := (blk_cell BQ.out 0).trans rfl; have a1 : W3.cell? ⟨Q, 1, none⟩ = some (.int .i64 q2) := (blk_cell BQ.out 1).trans rfl; have a2 : W3.cell? ⟨Q, 2, none⟩ = some (.int .i64 0) := (blk_cell BQ.out 2).trans rfl; have a3 : W3.cell? ⟨Q, 3, none⟩ = some (.int .i64 0) := (blk_cell BQ.out 3).trans rfl; have fr0 := blk_frozen BR.out 0; have fr1 := blk_frozen BR.out 1; have fr2 := blk_frozen BR.out 2; have fr3 := blk_frozen BR.out 3; have fr4 := blk_frozen BR.out 4; have fr5 := blk_frozen BR.out 5; have fr6 := blk_frozen BR.out 6; have fa0 := blk_frozen BQ.out 0; have fa1 := blk_frozen BQ.out 1; have fa2 := blk_frozen BQ.out 2; have fa3 := blk_frozen BQ.out 3)
    | (clear tokD_; go_at_call 39; refine (num_GetSigned.calls k A3 (c0 - p2.toNat - q2.toNat - o4.toNat) l3 s1 s2 _ (Kd.C_below HR3.out (below_set (below_set (below_set (below_set HBW.out HGR.out) HGR.out) HGR.out) HGQ.out)) HC3.out HS.out).mono ?_; rintro e W4 ⟨rfl, hb⟩; have n0 := Aside0.mk (blk_below (g := R) (o := .cells #[.int .i64 0, .int .i64 p1, .int .i64 q1, .int .i64 o1, .int .i64 o2, .int .i64 o3, .int .i64 0] 32 (0, 0)) (blk_far (block_record.put3 BR.out) (p := ⟨Q, 2, none⟩) NRQ.out _) hb); have n1 := Aside0.mk (blk_below (g := Q) (o := .cells #[.int .i64 p2, .int .i64 q2, .int .i64 o4, .int .i64 0] 57 (0, 0)) (blk_put (blk_far (blk_far (blk_far BQ.out (p := ⟨R, 3, none⟩) (Ne.symm NRQ.out) _) (p := ⟨R, 4, none⟩) (Ne.symm NRQ.out) _) (p := ⟨R, 5, none⟩) (Ne.symm NRQ.out) _) 2 _ rfl) hb); have n2 := Aside0.mk (below_step (by repeat (first | exact HBW.out | (refine below_set ?_ HGR.out) | (refine below_set ?_ HGQ.out))) hb); clear BR BQ HBW hb; have BR := n0; have BQ := n1; have HBW := n2; clear n0 n1 n2; clear r0 r1 r2 r3 r4 r5 r6 a0 a1 a2 a3 fr0 fr1 fr2 fr3 fr4 fr5 fr6 fa0 fa1 fa2 fa3; have r0 : W4.cell? ⟨R, 0, none⟩ = some (.int .i64 0) := (blk_cell BR.out 0).trans rfl; have r1 : W4.cell? ⟨R, 1, none⟩ = some (.int .i64 p1) := (blk_cell BR.out 1).trans rfl; have r2 : W4.cell? ⟨R, 2, none⟩ = some (.int .i64 q1) := (blk_cell BR.out 2).trans rfl; have r3 : W4.cell? ⟨R, 3, none⟩ = some (.int .i64 o1) := (blk_cell BR.out 3).trans rfl; have r4 : W4.cell? ⟨R, 4, none⟩ = some (.int .i64 o2) := (blk_cell BR.out 4).trans rfl; have r5 : W4.cell? ⟨R, 5, none⟩ = some (.int .i64 o3) := (blk_cell BR.out 5).trans rfl; have r6 : W4.cell? ⟨R, 6, none⟩ = some (.int .i64 0) := (blk_cell BR.out 6).trans rfl; have a0 : W4.cell? ⟨Q, 0, none⟩ = some (.int .i64 p2) := (blk_cell BQ.out 0).trans rfl; have a1 : W4.cell? ⟨Q, 1, none⟩ = some (.int .i64 q2) := (blk_cell BQ.out 1).trans rfl; have a2 : W4.cell? ⟨Q, 2, none⟩ = some (.int .i64 o4) := (blk_cell BQ.out 2).trans rfl; have a3 : W4.cell? ⟨Q, 3, none⟩ = some (.int .i64 0) := (blk_cell BQ.out 3).trans rfl; have fr0 := blk_frozen BR.out 0; have fr1 := blk_frozen BR.out 1; have fr2 := blk_frozen BR.out 2; have fr3 := blk_frozen BR.out 3; have fr4 := blk_frozen BR.out 4; have fr5 := blk_frozen BR.out 5; have fr6 := blk_frozen BR.out 6; have fa0 := blk_frozen BQ.out 0; have fa1 := blk_frozen BQ.out 1; have fa2 := blk_frozen BQ.out 2; have fa3 := blk_frozen BQ.out 3))
  refine wp_loop_rounds 5 ?_
  repeat any_goals (rw [rounds_succ]; go_wp2)
  refine bodyPost_ret (results_ct rfl _ _ R 32 (block_record.cs ⟨0, p1, q1, ⟨o1, o2, o3⟩, s1⟩) (0, 0) _ rfl (block_record.put7 (blk_far (blk_put BR.out 6 _ rfl) (p := ⟨Q, 3, none⟩) NRQ.out _)) Try.underlying32 rfl (by kernel_rfl)) rfl ⟨rfl, ?_⟩
  exact block_record.below7 (below_set (below_set HBW.out HGR.out) HGQ.out) HGR.out

/-! ### bytes_Equal: function 29 -/
def bytes_Equal.f (l0 : List Int) (l1 : List Int) : Option (Bool) := some ((strOfNums l0).toList == (strOfNums l1).toList)
set_option maxHeartbeats 8000000 in
set_option maxRecDepth 100000 in
theorem bytes_Equal.calls (A0 : Option Addr) (c0 : Nat) (l0 : List Int) (A1 : Option Addr) (c1 : Nat) (l1 : List Int) (r : Bool) (w : World) (hr0 : Kd.C (Kd.int .u8) w A0 l0.length l0) (hc0 : l0.length ≤ c0) (hr1 : Kd.C (Kd.int .u8) w A1 l1.length l1) (hc1 : l1.length ≤ c1) (h : bytes_Equal.f l0 l1 = some r) :
    Calls Try.prog 29 #[.slice A0 l0.length c0, .slice A1 l1.length c1] w fun e w' => e = .returned (.bool r) ∧ Drawn0 w w' := by
  have HR0 := Aside0.mk hr0
  have HC0 := Aside0.mk hc0
  clear hr0 hc0
  have HR1 := Aside0.mk hr1
  have HC1 := Aside0.mk hc1
  clear hr1 hc1
  have H : (some ((strOfNums l0).toList == (strOfNums l1).toList)) = some r := h
  clear h
  obtain rfl := Option.some.inj H
  have hcv3 := Kd.C_string (P := Try.prog) (A := A0) (c := c0) Try.underlying24 Try.underlying5 Try.underlying9 HR0.out
  have hcv4 := Kd.C_string (P := Try.prog) (A := A1) (c := c1) Try.underlying24 Try.underlying5 Try.underlying9 HR1.out
  go_enter Try.func29, Try.ntmps29
  go_wp2
  go_ret
  exact ⟨by first | rfl | (simp; done) | (simp [*]; done), by repeat (first | exact Drawn0.refl _ | apply Drawn0.step)⟩

/-! ### block_Decode: function 16 -/
theorem block_Decode.append_law {P : Program} {ops : Array Oper} {o : Oper} {a : Act} {Q : Exit → Act → World → Prop} {Kc : Act → World → Prop} {E : Prop} {α : Type} (d : Kd α) {w0 W : World} (base : Nat) (hgd : o.guard = none) (s x : Operand) (t e : TypeId) (z : Value) (bytes : Nat)
    (ho : o.op = .call { callee := .builtin .append, args := #[s, x], argTypes := #[t, t] })
    (ht : P.underlying t = some (.slice e)) (hinfo : (P.info? e).map (fun i => (i.zero, i.size, i.bytes)) = some (some z, d.sz, bytes)) (hz : z.cells.size = d.sz) (hs0 : 0 < d.sz) (hb0 : 0 < bytes)
    (v : Value) (xs : List α) (p : α) (cs : List Value) (ok okp : Nat → Prop) (hs : a.eval s = v) (hx : a.eval x = .slice (some ⟨W.heap.size, 0, none⟩) 1 1) (hp : d.M W base okp p cs) (hokp : ∀ k, okp k → ok k ∧ some k ≠ v.ownBlock) (hfresh : ∀ k, W.heap.size ≤ k → ok k)
    (HO : d.R e W base ok v xs) (HB : Below base w0 W) (hbase : base ≤ W.heap.size) (hl : (xs.length + 1) * bytes ≤ 140737488355328)
    (h : ∀ v1 w1, d.R e w1 base ok v1 (xs ++ [p]) → Below base w0 w1 → W.grownBy w1 v.ownBlock → (v1.ownBlock = v.ownBlock ∨ ∃ b, v1.ownBlock = some b ∧ W.heap.size ≤ b) → Kc (a.put o.dst v1) w1) :
    if Region.wanted o (yielded ops a.tmps) = true then Oper.wp P o a (W.alloc (.cells cs.toArray e)) Kc Q else E := by
  have hw : Region.wanted o (yielded ops a.tmps) = true := by simp [Region.wanted, hgd]
  have h2 := Kd.R_append_step (P := P) (ops := ops) (o := o) (a := a) (Q := Q) (Kc := Kc) d base hw s x t e z bytes ho ht hinfo hz hs0 hb0 v xs p cs ok okp hs hx hp hokp hfresh HO HB hbase hl h
  rw [if_pos hw] at h2 ⊢
  exact h2
/-- So many records, one behind the other; f: what each process's last one had. -/
def block_Decode.go (k : Nat) (first : Int) : Nat → Nat → (Int → Int) → List S32 → List Int → Option (Option (List S32))
  | 0, _, _, l, _ => some (some l)
  | n + 1, i, f, l, rest => (block_record.f k rest).bind fun r => if r.2 = 0 then some none else
      (if 0 ≤ r.2 then (if r.2 ≤ rest.length then (if 0 ≤ r.1.f1 ∧ r.1.f1 < 4611686018427387904 then
        block_Decode.go k first n (i + 1) (Go.Proofs.Ytecddphmnoegdaa.MapAid.upd f r.1.f1 (wrap64 (r.1.f2 + f r.1.f1))) (l ++ [⟨wrap64 (first + (i : Int)), r.1.f1, wrap64 (r.1.f2 + f r.1.f1), r.1.f3, r.1.f4⟩]) (rest.drop r.2.toNat)
      else none) else none) else none)
theorem block_Decode.go_mono (k : Nat) (first : Int) : ∀ n i f l rest, LeO (block_Decode.go k first n i f l rest) (block_Decode.go (k + 1) first n i f l rest)
  | 0, _, _, _, _ => LeO.refl _
  | n + 1, i, f, l, rest => by
    unfold block_Decode.go
    repeat' first
      | (with_reducible exact block_record.mono _ _)
      | (with_reducible exact block_Decode.go_mono k first n _ _ _ _)
      | (with_reducible exact LeO.refl _)
      | (with_reducible refine LeO.ite ?_ ?_)
      | (with_reducible refine LeO.bind ?_ (fun _ => ?_))
def block_Decode.fin (k : Nat) (l0 : List Int) : Option (List S32) → Option (List S32 × Int)
  | none => some ([], 3)
  | some l => (block_Encode.f k l).bind fun c => if c.2 = 0 then ((bytes_Equal.f c.1 l0).bind fun t => if t = true then some (l, 0) else some ([], 3)) else some ([], 3)
theorem block_Decode.fin_mono (k : Nat) (l0 : List Int) : ∀ o, LeO (block_Decode.fin k l0 o) (block_Decode.fin (k + 1) l0 o)
  | none => LeO.refl _
  | some l => by
    unfold block_Decode.fin
    repeat' first
      | (with_reducible exact block_Encode.mono _ _)
      | (with_reducible exact LeO.refl _)
      | (with_reducible refine LeO.ite ?_ ?_)
      | (with_reducible refine LeO.bind ?_ (fun _ => ?_))
def block_Decode.f (k : Nat) (l0 : List Int) : Option (List S32 × Int) :=
  (num_Get.f k l0).bind fun p => (if 0 ≤ p.2 then (if p.2 ≤ l0.length then
  ((num_Get.f k (l0.drop p.2.toNat)).bind fun q => (if p.2 = 0 ∨ q.2 = 0 ∨ q.1 > 256 then some ([], 3) else (if 0 ≤ q.2 then (if p.2 + q.2 ≤ l0.length then
    ((block_Decode.go k p.1 q.1.toNat 0 (fun _ => 0) [] (l0.drop (p.2 + q.2).toNat)).bind fun o => block_Decode.fin k l0 o)
  else none) else none))) else none) else none)
theorem block_Decode.mono : ∀ a0 k, LeO (block_Decode.f k a0) (block_Decode.f (k + 1) a0) := by
  intro a0 k
  unfold block_Decode.f
  repeat' first
      | (with_reducible exact num_Get.mono _ _)
      | (with_reducible exact block_Decode.go_mono _ _ _ _ _ _ _)
      | (with_reducible exact block_Decode.fin_mono _ _ _)
      | (with_reducible exact LeO.refl _)
      | (with_reducible refine LeO.ite ?_ ?_)
      | (with_reducible refine LeO.bind ?_ (fun _ => ?_))
set_option maxHeartbeats 8000000 in
set_option maxRecDepth 100000 in
theorem block_Decode.calls (k : Nat) (A0 : Option Addr) (c0 : Nat) (l0 : List Int) (r1 : List S32) (r2 : Int) (w : World) (hr0 : Kd.C (Kd.int .u8) w A0 l0.length l0) (hc0 : l0.length ≤ c0) (h : block_Decode.f k l0 = some (r1, r2)) :
    Calls Try.prog 16 #[.slice A0 l0.length c0] w fun e w' => ∃ v0_ : Value, e = .returned (.tuple #[v0_, .int .i64 r2]) ∧ Kd.R k32 32 w' w.heap.size (fun _ => True) v0_ r1 ∧ Below w.heap.size w w' := by
  have hmm := @run_makeMap Try.prog
  have hu32 := Try.underlying32
  have hu30 := Try.underlying30
  unfold block_Decode.f at h
  rw [Option.bind_eq_some_iff] at h
  obtain ⟨⟨p1, p2⟩, hp, h⟩ := h
  by_cases hp0 : 0 ≤ p2
  case neg => exact absurd h (by simp [hp0])
  by_cases hp1 : p2 ≤ l0.length
  case neg => exact absurd h (by simp [hp1])
  rw [if_pos hp0, if_pos hp1, Option.bind_eq_some_iff] at h
  obtain ⟨⟨q1, q2⟩, hq, h⟩ := h
  obtain ⟨l1, hl1⟩ : ∃ l1, l1 = l0.drop p2.toNat := ⟨_, rfl⟩
  simp only [← hl1] at hq h
  have hinf : (Try.prog.info? 5).map (fun i => (i.zero, i.size, i.bytes)) = some (some (.int .u8 0), 1, 1) := by kernel_rfl
  obtain ⟨ii, hii, _, hz1, _⟩ := info_parts hinf
  have hL := hr0.2.1
  obtain ⟨A1, hrun1, hread1, hlen1⟩ := print_cut_int (P := Try.prog) (k := .u8) 24 5 Try.underlying24 hii hz1 A0 c0 l0 p2 hp0 hp1 hc0
  rw [← hl1] at hrun1 hread1 hlen1
  have e0 := Kd.reads_of_C (enc := Value.int .u8) (d := (0 : Int)) (h1 := fun _ => rfl) hr0
  have e1 := hread1 w e0
  have HR0 := Aside0.mk hr0
  have HR1 := Aside0.mk (Kd.C_of_reads (enc := Value.int .u8) (d := (0 : Int)) (h1 := fun _ => rfl) e1)
  have HC0 := Aside0.mk hc0
  have HC1 := Aside0.mk hlen1
  have HP := Aside0.mk hp
  have HQ := Aside0.mk hq
  have hB0 := Below.refl w.heap.size w
  have HB := Aside0.mk hB0
  have HII := Aside0.mk hii
  have HZ1 := Aside0.mk hz1
  have E0 := Aside0.mk e0
  clear hinf hii hz1 hread1 hlen1 e0 e1 hr0 hc0 hp hq hl1 hB0
  by_cases z0 : p2 = 0
  · have t0 : (p2 == 0) = true := beq_iff_eq.mpr z0
    rw [if_pos (by omega)] at h
    clear z0
    go_enter Try.func16, Try.ntmps16
    have tokA_ : True := trivial
    have tokB_ : True := trivial
    go_wp2_with (first | (clear tokA_; go_at_call 27; refine (num_Get.calls k A0 c0 l0 p1 p2 _ HR0.out HC0.out HP.out).mono ?_; rintro e W1 ⟨rfl, hb⟩; have HB1 := Aside0.mk (below_step HB.out hb); clear hb) | (clear tokB_; go_at_call 27; refine (num_Get.calls k A1 (c0 - p2.toNat) l1 q1 q2 _ (Kd.C_below HR1.out HB1.out) HC1.out HQ.out).mono ?_; rintro e W2 ⟨rfl, hb⟩; have HB2 := Aside0.mk (below_step HB1.out hb); clear hb))
    simp only [Option.some.injEq, Prod.mk.injEq] at h
    obtain ⟨rfl, rfl⟩ := h
    go_ret2
    exact ⟨_, rfl, Kd.R_nil _ _ _ _ _, HB2.out⟩
  have t0 : (p2 == 0) = false := beq_eq_false_iff_ne.mpr z0
  by_cases z1 : q2 = 0
  · have t1 : (q2 == 0) = true := beq_iff_eq.mpr z1
    rw [if_pos (by omega)] at h
    clear z1
    go_enter Try.func16, Try.ntmps16
    have tokA_ : True := trivial
    have tokB_ : True := trivial
    go_wp2_with (first | (clear tokA_; go_at_call 27; refine (num_Get.calls k A0 c0 l0 p1 p2 _ HR0.out HC0.out HP.out).mono ?_; rintro e W1 ⟨rfl, hb⟩; have HB1 := Aside0.mk (below_step HB.out hb); clear hb) | (clear tokB_; go_at_call 27; refine (num_Get.calls k A1 (c0 - p2.toNat) l1 q1 q2 _ (Kd.C_below HR1.out HB1.out) HC1.out HQ.out).mono ?_; rintro e W2 ⟨rfl, hb⟩; have HB2 := Aside0.mk (below_step HB1.out hb); clear hb))
    simp only [Option.some.injEq, Prod.mk.injEq] at h
    obtain ⟨rfl, rfl⟩ := h
    go_ret2
    exact ⟨_, rfl, Kd.R_nil _ _ _ _ _, HB2.out⟩
  have t1 : (q2 == 0) = false := beq_eq_false_iff_ne.mpr z1
  by_cases z2 : q1 > 256
  · have t2 : decide (256 < q1) = true := decide_eq_true z2
    rw [if_pos (by omega)] at h
    clear z0 z1 z2
    go_enter Try.func16, Try.ntmps16
    have tokA_ : True := trivial
    have tokB_ : True := trivial
    go_wp2_with (first | (clear tokA_; go_at_call 27; refine (num_Get.calls k A0 c0 l0 p1 p2 _ HR0.out HC0.out HP.out).mono ?_; rintro e W1 ⟨rfl, hb⟩; have HB1 := Aside0.mk (below_step HB.out hb); clear hb) | (clear tokB_; go_at_call 27; refine (num_Get.calls k A1 (c0 - p2.toNat) l1 q1 q2 _ (Kd.C_below HR1.out HB1.out) HC1.out HQ.out).mono ?_; rintro e W2 ⟨rfl, hb⟩; have HB2 := Aside0.mk (below_step HB1.out hb); clear hb))
    simp only [Option.some.injEq, Prod.mk.injEq] at h
    obtain ⟨rfl, rfl⟩ := h
    go_ret2
    exact ⟨_, rfl, Kd.R_nil _ _ _ _ _, HB2.out⟩
  have t2 : decide (256 < q1) = false := decide_eq_false z2
  rw [if_neg (by omega)] at h
  by_cases hq0 : 0 ≤ q2
  case neg => exact absurd h (by simp [hq0])
  by_cases hq1 : p2 + q2 ≤ l0.length
  case neg => exact absurd h (by simp [hq1])
  rw [if_pos hq0, if_pos hq1, Option.bind_eq_some_iff] at h
  obtain ⟨o, hgo, hfin⟩ := h
  obtain ⟨l2, hl2⟩ : ∃ l2, l2 = l0.drop (p2 + q2).toNat := ⟨_, rfl⟩
  simp only [← hl2] at hgo
  obtain ⟨A2, hrun2, hread2, hlen2⟩ := print_cut_int (P := Try.prog) (k := .u8) 24 5 Try.underlying24 HII.out HZ1.out A0 c0 l0 (p2 + q2) (by omega) hq1 HC0.out
  rw [← hl2] at hrun2 hread2 hlen2
  have HR2 := Aside0.mk (Kd.C_of_reads (enc := Value.int .u8) (d := (0 : Int)) (h1 := fun _ => rfl) (hread2 w E0.out))
  have HC2 := Aside0.mk hlen2
  have HG := Aside0.mk hgo
  have HF := Aside0.mk hfin
  have hq256 : q1 ≤ 256 := by omega
  have HQ256 := Aside0.mk hq256
  have hsum1 : p2 + q2 ≤ 9223372036854775807 := by omega
  have hsum0 : -9223372036854775808 ≤ p2 + q2 := by omega
  have hws : wrap64 (p2 + q2) = p2 + q2 := by unfold wrap64; omega
  clear hl2 hread2 hlen2 hgo hfin z0 z1 z2 hL hp1 hq1 hq256
  go_enter Try.func16, Try.ntmps16
  have tokA_ : True := trivial
  have tokB_ : True := trivial
  go_wp2_with (first | (clear tokA_; go_at_call 27; refine (num_Get.calls k A0 c0 l0 p1 p2 _ HR0.out HC0.out HP.out).mono ?_; rintro e W1 ⟨rfl, hb⟩; have HB1 := Aside0.mk (below_step HB.out hb); clear hb) | (clear tokB_; go_at_call 27; refine (num_Get.calls k A1 (c0 - p2.toNat) l1 q1 q2 _ (Kd.C_below HR1.out HB1.out) HC1.out HQ.out).mono ?_; rintro e W2 ⟨rfl, hb⟩; have HB2 := Aside0.mk (below_step HB1.out hb); clear hb))
  clear hws hsum1 hsum0 hrun1 hrun2 t0 t1 t2 hmm
  have HM := Aside0.mk (Go.Proofs.Ytecddphmnoegdaa.MapAid.IsM.made Try.prog 3 W2)
  have HMw := Aside0.mk (below_size HB2.out)
  have HBm := Aside0.mk (below_alloc HB2.out (.map #[] 0))
  obtain ⟨M, hM⟩ : ∃ M, M = W2.heap.size := ⟨_, rfl⟩
  rw [← hM] at HM HMw ⊢
  obtain ⟨Wm, hWm⟩ : ∃ Wm, Wm = W2.alloc (.map #[] 0) := ⟨_, rfl⟩
  rw [← hWm] at HM HBm ⊢
  clear hM hWm HB1 HB2 HB
  go_loopg [9, 10, 45] q1.toNat (fun kq v9 v10 v45 w' => ∃ (i : Nat) (f : Int → Int) (ys : List S32) (A : Option Addr) (c : Nat) (rest : List Int), v45 = .int .i64 i ∧ v10 = .slice A rest.length c ∧ Aside0 (i + kq = q1.toNat ∧ ys.length = i) ∧ Aside0 (block_Decode.go k p1 kq i f ys rest = some o) ∧ Aside0 (Kd.C (Kd.int .u8) w A rest.length rest) ∧ Aside0 (rest.length ≤ c) ∧ Aside0 (Kd.R k32 32 w' w.heap.size (fun _ => True) v9 ys) ∧ Aside0 (Go.Proofs.Ytecddphmnoegdaa.MapAid.IsM Try.prog 3 w' M i f) ∧ Aside0 (Below w.heap.size w w'))
  case atStart => exact ⟨0, _, [], A2, _, l2, rfl, rfl, ⟨by omega, rfl⟩, HG, HR2, HC2, ⟨Kd.R_nil _ _ _ _ _⟩, HM, HBm⟩
  case round =>
    clear HG HR2 HC2 HM HBm
    obtain ⟨i, f, ys, A, c, rest, rfl, rfl, HI, HG, HR, HC, HO, HM, HB⟩ := hrel
    have hi := HI.out
    have hq256 := HQ256.out
    cases gk with
    | zero =>
      have c1 : decide ((i : Int) < q1) = false := decide_eq_false (by omega)
      have h := HG.out
      simp only [block_Decode.go, Option.some.injEq] at h
      subst h
      have h := HF.out
      simp only [block_Decode.fin] at h
      rw [Option.bind_eq_some_iff] at h
      obtain ⟨⟨cb, ce⟩, he, h⟩ := h
      have HE := Aside0.mk he
      obtain ⟨Ay, cy, ey⟩ := Kd.R_slice HO.out
      subst ey
      clear hi he HF HG HM hq256
      have tokC_ : True := trivial
      by_cases ze : ce = 0
      · subst ze
        rw [if_pos rfl, Option.bind_eq_some_iff] at h
        obtain ⟨t, ht, h⟩ := h
        have HT := Aside0.mk ht
        clear ht
        cases t with
        | false =>
          rw [if_neg (by decide)] at h
          simp only [Option.some.injEq, Prod.mk.injEq] at h
          obtain ⟨rfl, rfl⟩ := h
          have tok1_ : True := trivial
          go_wp2_with (first | (clear tokC_; go_at_call 11; refine (block_Encode.calls k Ay cy ys cb 0 _ (Kd.R_reads' HO.out).2.2 (Kd.R_reads' HO.out).2.1 HE.out).mono ?_; rintro e W8 ⟨v8, rfl, ho, hb⟩; have HO8 := Aside0.mk (Kd.R_below HO.out hb); have HC8 := Aside0.mk (Kd.R_lower ho (below_size HB.out)); have HB8 := Aside0.mk (below_step HB.out hb); clear ho hb; obtain ⟨Ac, cc, ec⟩ := Kd.R_slice HC8.out; subst ec) | (go_at_call 29; clear tok1_; refine (bytes_Equal.calls Ac cc cb A0 c0 l0 false _ (Kd.R_reads' HC8.out).2.2 (Kd.R_reads' HC8.out).2.1 (Kd.C_below HR0.out HB8.out) HC0.out HT.out).mono ?_; rintro e W9 ⟨rfl, ⟨nd, rfl⟩⟩))
          go_ret2
          exact ⟨_, rfl, Kd.R_nil _ _ _ _ _, pw_below_drewN HB8.out _⟩
        | true =>
          rw [if_pos rfl] at h
          simp only [Option.some.injEq, Prod.mk.injEq] at h
          obtain ⟨rfl, rfl⟩ := h
          have tok2_ : True := trivial
          go_wp2_with (first | (clear tokC_; go_at_call 11; refine (block_Encode.calls k Ay cy ys cb 0 _ (Kd.R_reads' HO.out).2.2 (Kd.R_reads' HO.out).2.1 HE.out).mono ?_; rintro e W8 ⟨v8, rfl, ho, hb⟩; have HO8 := Aside0.mk (Kd.R_below HO.out hb); have HC8 := Aside0.mk (Kd.R_lower ho (below_size HB.out)); have HB8 := Aside0.mk (below_step HB.out hb); clear ho hb; obtain ⟨Ac, cc, ec⟩ := Kd.R_slice HC8.out; subst ec) | (go_at_call 29; clear tok2_; refine (bytes_Equal.calls Ac cc cb A0 c0 l0 true _ (Kd.R_reads' HC8.out).2.2 (Kd.R_reads' HC8.out).2.1 (Kd.C_below HR0.out HB8.out) HC0.out HT.out).mono ?_; rintro e W9 ⟨rfl, ⟨nd, rfl⟩⟩))
          go_ret2
          exact ⟨_, rfl, Kd.R_drewN HO8.out _, pw_below_drewN HB8.out _⟩
      · rw [if_neg ze] at h
        have te : (ce != 0) = true := bne_iff_ne.mpr ze
        simp only [Option.some.injEq, Prod.mk.injEq] at h
        obtain ⟨rfl, rfl⟩ := h
        clear ze
        go_wp2_with (clear tokC_; go_at_call 11; refine (block_Encode.calls k Ay cy ys cb ce _ (Kd.R_reads' HO.out).2.2 (Kd.R_reads' HO.out).2.1 HE.out).mono ?_; rintro e W8 ⟨v8, rfl, ho, hb⟩; have HO8 := Aside0.mk (Kd.R_below HO.out hb); have HC8 := Aside0.mk (Kd.R_lower ho (below_size HB.out)); have HB8 := Aside0.mk (below_step HB.out hb); clear ho hb; obtain ⟨Ac, cc, ec⟩ := Kd.R_slice HC8.out; subst ec)
        go_ret2
        exact ⟨_, rfl, Kd.R_nil _ _ _ _ _, HB8.out⟩
    | succ n =>
      have c1 : decide ((i : Int) < q1) = true := decide_eq_true (by omega)
      have h := HG.out
      simp only [block_Decode.go] at h
      rw [Option.bind_eq_some_iff] at h
      obtain ⟨⟨x, sz⟩, hr, h⟩ := h
      have HRC := Aside0.mk hr
      clear hr HG hi hq256
      have tokD_ : True := trivial
      by_cases hz : sz = 0
      · have tz : (sz == 0) = true := beq_iff_eq.mpr hz
        rw [if_pos hz] at h
        simp only [Option.some.injEq] at h
        subst h
        have h := HF.out
        simp only [block_Decode.fin, Option.some.injEq, Prod.mk.injEq] at h
        obtain ⟨rfl, rfl⟩ := h
        clear hz HF
        go_wp2_with (first | (clear tokD_; go_at_call 28; refine (block_record.calls k A c rest x sz _ (Kd.C_below HR.out HB.out) HC.out HRC.out).mono ?_; rintro e W3 ⟨rfl, hb⟩; unfold block_record.cs; have HO3 := Aside0.mk (Kd.R_below HO.out hb); have HM3 := Aside0.mk (HM.out.below hb); have HB3 := Aside0.mk (below_step HB.out hb); clear hb HO HM HB) | ((with_reducible refine gate_dst (N := 12) rfl ?_); refine box_event ?hg (N := 12) ?hd (cs := #[.int .i64 0, .int .i64 0, .int .i64 0, .int .i64 0, .int .i64 0, .int .i64 0, .int .i64 0]) (t := 32) ?hr ?_; (case hd => rfl); (case hg => rfl); (case hr => first | (go_simp; done) | (go_simp; rfl)); intro G hg Wb hbox hb; have HOb := Aside0.mk (Kd.R_below (Kd.R_elderB HO3.out G (Nat.le_of_eq hg.symm)) hb); have HMb := Aside0.mk (HM3.out.below hb); have BKb := Aside0.mk hbox; have HBb := Aside0.mk (below_step HB3.out hb); have HGW := Aside0.mk (show w.heap.size ≤ G by rw [hg]; exact below_size HB3.out); clear hg hbox hb HO3 HM3 HB3; have zc0 := (blk_cell BKb.out 0).trans rfl; have zc1 := (blk_cell BKb.out 1).trans rfl; have zc2 := (blk_cell BKb.out 2).trans rfl; have zc3 := (blk_cell BKb.out 3).trans rfl; have zc4 := (blk_cell BKb.out 4).trans rfl; have zc5 := (blk_cell BKb.out 5).trans rfl; have zc6 := (blk_cell BKb.out 6).trans rfl; have zf0 := blk_frozen BKb.out 0; have zf1 := blk_frozen BKb.out 1; have zf2 := blk_frozen BKb.out 2; have zf3 := blk_frozen BKb.out 3; have zf4 := blk_frozen BKb.out 4; have zf5 := blk_frozen BKb.out 5; have zf6 := blk_frozen BKb.out 6))
        go_ret2
        exact ⟨_, rfl, Kd.R_nil _ _ _ _ _, block_Encode.st_below HBb.out HGW.out x⟩
      · have tz : (sz == 0) = false := beq_eq_false_iff_ne.mpr hz
        rw [if_neg hz] at h
        by_cases hz0 : 0 ≤ sz
        case neg => exact absurd h (by simp [hz0])
        by_cases hz1 : sz ≤ rest.length
        case neg => exact absurd h (by simp [hz1])
        by_cases hk : 0 ≤ x.f1 ∧ x.f1 < 4611686018427387904
        case neg => exact absurd h (by simp [hz0, hz1, hk])
        rw [if_pos hz0, if_pos hz1, if_pos hk] at h
        obtain ⟨rest', hrest'⟩ : ∃ rest', rest' = rest.drop sz.toNat := ⟨_, rfl⟩
        obtain ⟨ys', hys'⟩ : ∃ ys' : List S32, ys' = ys ++ [⟨wrap64 (p1 + (i : Int)), x.f1, wrap64 (x.f2 + f x.f1), x.f3, x.f4⟩] := ⟨_, rfl⟩
        simp only [← hrest', ← hys'] at h
        obtain ⟨A', hrun', hread', hlen'⟩ := print_cut_int (P := Try.prog) (k := .u8) 24 5 Try.underlying24 HII.out HZ1.out A c rest sz hz0 hz1 HC.out
        rw [← hrest'] at hrun' hread' hlen'
        have HR' := Aside0.mk (Kd.C_of_reads (enc := Value.int .u8) (d := (0 : Int)) (h1 := fun _ => rfl) (hread' w (Kd.reads_of_C (enc := Value.int .u8) (d := (0 : Int)) (h1 := fun _ => rfl) HR.out)))
        have HC' := Aside0.mk hlen'
        have HG5 := Aside0.mk h
        have NY := Aside0.mk hys'
        have HW1 := Aside0.mk (block_Encode.wf_of (n := x.f1) (by omega) (by omega))
        clear h hz hz1 hk hrest' hys' hread' hlen' 
        go_upto_region 15 with (first | (clear tokD_; go_at_call 28; refine (block_record.calls k A c rest x sz _ (Kd.C_below HR.out HB.out) HC.out HRC.out).mono ?_; rintro e W3 ⟨rfl, hb⟩; unfold block_record.cs; have HO3 := Aside0.mk (Kd.R_below HO.out hb); have HM3 := Aside0.mk (HM.out.below hb); have HB3 := Aside0.mk (below_step HB.out hb); clear hb HO HM HB) | ((with_reducible refine gate_dst (N := 12) rfl ?_); refine box_event ?hg (N := 12) ?hd (cs := #[.int .i64 0, .int .i64 0, .int .i64 0, .int .i64 0, .int .i64 0, .int .i64 0, .int .i64 0]) (t := 32) ?hr ?_; (case hd => rfl); (case hg => rfl); (case hr => first | (go_simp; done) | (go_simp; rfl)); intro G hg Wb hbox hb; have HOb := Aside0.mk (Kd.R_below (Kd.R_elderB HO3.out G (Nat.le_of_eq hg.symm)) hb); have HMb := Aside0.mk (HM3.out.below hb); have BKb := Aside0.mk hbox; have HBb := Aside0.mk (below_step HB3.out hb); have HGW := Aside0.mk (show w.heap.size ≤ G by rw [hg]; exact below_size HB3.out); clear hg hbox hb HO3 HM3 HB3; have zc0 := (blk_cell BKb.out 0).trans rfl; have zc1 := (blk_cell BKb.out 1).trans rfl; have zc2 := (blk_cell BKb.out 2).trans rfl; have zc3 := (blk_cell BKb.out 3).trans rfl; have zc4 := (blk_cell BKb.out 4).trans rfl; have zc5 := (blk_cell BKb.out 5).trans rfl; have zc6 := (blk_cell BKb.out 6).trans rfl; have zf0 := blk_frozen BKb.out 0; have zf1 := blk_frozen BKb.out 1; have zf2 := blk_frozen BKb.out 2; have zf3 := blk_frozen BKb.out 3; have zf4 := blk_frozen BKb.out 4; have zf5 := blk_frozen BKb.out 5; have zf6 := blk_frozen BKb.out 6))
        (try simp only [Act.put, List.setIfInBounds_toArray, List.set_cons_zero, List.set_cons_succ])
        obtain ⟨Ws, hw⟩ : ∃ Ws, Ws = (block_Encode.st Wb G x).setCell ⟨G, 0, none⟩ (.int .i64 (wrap64 (p1 + (i : Int)))) := ⟨_, rfl⟩
        show Code.wp _ _ _ _ ((block_Encode.st Wb G x).setCell ⟨G, 0, none⟩ (.int .i64 (wrap64 (p1 + (i : Int)))))
        rw [← hw]
        have NMG := Aside0.mk (HMb.out.ne BKb.out)
        have HOs := Aside0.mk (show Kd.R k32 32 Ws w.heap.size (fun k_ => True ∧ k_ ≠ G) u9 ys by rw [hw]; exact Kd.R_far (p := ⟨G, 0, none⟩) (Kd.R_step HOb.out (fun j hj _ => block_Encode.st_far Wb hj.2 x)) (fun _ hk => hk.2) _)
        have HMs := Aside0.mk (show Go.Proofs.Ytecddphmnoegdaa.MapAid.IsM Try.prog 3 Ws M i f by rw [hw]; exact (HMb.out.move (block_Encode.st_far Wb NMG.out x)).far (p := ⟨G, 0, none⟩) NMG.out _)
        have BKs := Aside0.mk (show Ws.heap[G]? = some (.cells #[.int .i64 (wrap64 (p1 + (i : Int))), .int .i64 x.f1, .int .i64 x.f2, .int .i64 x.f3.f0, .int .i64 x.f3.f1, .int .i64 x.f3.f2, .int .i64 x.f4] 32 (0, 0)) by rw [hw]; exact blk_put (block_Encode.st_heap BKb.out x) 0 _ rfl)
        have HBs := Aside0.mk (show Below w.heap.size w Ws by rw [hw]; exact below_set (block_Encode.st_below HBb.out HGW.out x) HGW.out)
        clear hw HOb HMb BKb HBb zc0 zc1 zc2 zc3 zc4 zc5 zc6 zf0 zf1 zf2 zf3 zf4 zf5 zf6
        have hlk := (HMs.out.lookup (x := x.f1) Try.underlying3 Try.underlying39 (by kernel_rfl) HW1.out).1
        have sc0 : Ws.cell? ⟨G, 0, none⟩ = some (.int .i64 (wrap64 (p1 + (i : Int)))) := (blk_cell BKs.out 0).trans rfl
        have sc1 : Ws.cell? ⟨G, 1, none⟩ = some (.int .i64 x.f1) := (blk_cell BKs.out 1).trans rfl
        have sc2 : Ws.cell? ⟨G, 2, none⟩ = some (.int .i64 x.f2) := (blk_cell BKs.out 2).trans rfl
        have sc3 : Ws.cell? ⟨G, 3, none⟩ = some (.int .i64 x.f3.f0) := (blk_cell BKs.out 3).trans rfl
        have sc4 : Ws.cell? ⟨G, 4, none⟩ = some (.int .i64 x.f3.f1) := (blk_cell BKs.out 4).trans rfl
        have sc5 : Ws.cell? ⟨G, 5, none⟩ = some (.int .i64 x.f3.f2) := (blk_cell BKs.out 5).trans rfl
        have sc6 : Ws.cell? ⟨G, 6, none⟩ = some (.int .i64 x.f4) := (blk_cell BKs.out 6).trans rfl
        have sf2 := blk_frozen BKs.out 2
        go_wp2_with (at_mapUpdate; refine Go.Proofs.Ytecddphmnoegdaa.MapAid.wpList_mapUpdate_is rfl _ _ _ 39 rfl (HMs.out.far (p := ⟨G, 2, none⟩) NMG.out (.int .i64 (wrap64 (x.f2 + f x.f1)))) Try.underlying3 Try.underlying39 (by unfold maxLen; have := HI.out; have := HQ256.out; omega) rfl rfl rfl HW1.out (wrap64_wf _) ?_; intro W7 hm hg
                     have HO7 := Aside0.mk (Kd.R_mono (Kd.R_grown ((HMs.out.far (p := ⟨G, 2, none⟩) NMG.out (.int .i64 (wrap64 (x.f2 + f x.f1)))).row (Kd.R_far (p := ⟨G, 2, none⟩) HOs.out (fun _ hk => hk.2) (.int .i64 (wrap64 (x.f2 + f x.f1))))) hg (fun j hj e => hj.2 (Option.some.inj e))) (ok' := fun k_ => True ∧ k_ ≠ G) (fun _ hk => hk.1))
                     have BK7 := Aside0.mk (blk_grown (blk_put BKs.out 2 (.int .i64 (wrap64 (x.f2 + f x.f1))) rfl) hg (fun e => NMG.out (Option.some.inj e).symm))
                     have HB7 := Aside0.mk (Below.grown (below_set HBs.out HGW.out) hg (below_size (below_set HBs.out HGW.out)) (fun j hj => by cases hj; exact HMw.out))
                     have HM7 := Aside0.mk hm
                     clear hm hg hlk sc0 sc1 sc2 sc3 sc4 sc5 sc6 sf2 HOs HMs BKs HBs)
        have vc0 : W7.cell? ⟨G, 0, none⟩ = some (.int .i64 (wrap64 (p1 + (i : Int)))) := (blk_cell BK7.out 0).trans rfl
        have vc1 : W7.cell? ⟨G, 1, none⟩ = some (.int .i64 x.f1) := (blk_cell BK7.out 1).trans rfl
        have vc2 : W7.cell? ⟨G, 2, none⟩ = some (.int .i64 (wrap64 (x.f2 + f x.f1))) := (blk_cell BK7.out 2).trans rfl
        have vc3 : W7.cell? ⟨G, 3, none⟩ = some (.int .i64 x.f3.f0) := (blk_cell BK7.out 3).trans rfl
        have vc4 : W7.cell? ⟨G, 4, none⟩ = some (.int .i64 x.f3.f1) := (blk_cell BK7.out 4).trans rfl
        have vc5 : W7.cell? ⟨G, 5, none⟩ = some (.int .i64 x.f3.f2) := (blk_cell BK7.out 5).trans rfl
        have vc6 : W7.cell? ⟨G, 6, none⟩ = some (.int .i64 x.f4) := (blk_cell BK7.out 6).trans rfl
        go_region_law (first
          | (refine block_Decode.append_law k32 (w0 := w) (W := W7.drew) w.heap.size rfl (.tmp 72) (.tmp 74) 22 32 (.agg #[.int .i64 0, .int .i64 0, .int .i64 0, .int .i64 0, .int .i64 0, .int .i64 0, .int .i64 0]) 56 rfl Try.underlying22 info32 rfl (by decide) (by omega) u9 ys ⟨wrap64 (p1 + (i : Int)), x.f1, wrap64 (x.f2 + f x.f1), x.f3, x.f4⟩ [.int .i64 (wrap64 (p1 + (i : Int))), .int .i64 x.f1, .int .i64 (wrap64 (x.f2 + f x.f1)), .int .i64 x.f3.f0, .int .i64 x.f3.f1, .int .i64 x.f3.f2, .int .i64 x.f4] (fun k_ => True ∧ k_ ≠ G) (fun _ => False) rfl rfl (k32_mkM _ _ _ _) (fun _ hk => hk.elim) (fun k_ hk => ⟨trivial, Kd.freshB BK7.out k_ hk⟩) (Kd.R_drew HO7.out) (below_drew1 HB7.out) (below_size (below_drew1 HB7.out)) (by have := HI.out; have := HQ256.out; omega) ?_
             intro v8 W8 ho hb hg hat
             rw [← NY.out] at ho
             have HM8 := Aside0.mk ((HM7.out.drew).move (w1 := W8) (hg.block M HM7.out.drew.lt (HM7.out.drew.ne_own (Kd.R_drew HO7.out))))
             have HO8 := Aside0.mk (Kd.R_mono (ok' := fun _ => True) ho (fun _ _ => trivial))
             have HB8 := Aside0.mk hb
             clear ho hb hg hat))
        all_goals
          go_wp2
          go_roundg n
          case measure => omega
          case rel =>
            have hi := HI.out
            have hq256 := HQ256.out
            exact ⟨i + 1, _, ys', A', _, rest', (by first | rfl | (rw [show wrap64 ((i : Int) + 1) = ((i + 1 : Nat) : Int) by unfold wrap64; omega]) | go_num), rfl, ⟨by omega, by rw [NY.out, List.length_append]; simp; omega⟩, HG5, HR', HC', HO8, HM8, HB8⟩

/-! ### ferrymanlaw07_BlockOnce: function 8 -/
def ferrymanlaw07_BlockOnce.f (k : Nat) (l0 : List Int) : Option (Bool) := (ferrymanlaw07_awake.f k).bind fun t147 => (if (l0.length : Int) > 3000 then (some t147) else ((block_Decode.f k l0).bind fun bt148 => (if bt148.2 = 0 then ((block_Encode.f k bt148.1).bind fun bt152 => (if t147 = true then (if bt152.2 = 0 then (if (strOfNums bt152.1).toList = (strOfNums l0).toList then ((block_Fits.f k bt148.1).bind fun t156 => (some t156)) else (some false)) else (some false)) else (some false))) else (if t147 = true then (some ((bt148.1.length : Int) == 0)) else (some false)))))
theorem ferrymanlaw07_BlockOnce.mono : ∀ a0 k, LeO (ferrymanlaw07_BlockOnce.f k a0) (ferrymanlaw07_BlockOnce.f (k + 1) a0) := by
  intro a0 k
  unfold ferrymanlaw07_BlockOnce.f
  repeat' first
      | (with_reducible exact block_Decode.mono _ _)
      | (with_reducible exact block_Encode.mono _ _)
      | (with_reducible exact block_Fits.mono _ _)
      | (with_reducible exact ferrymanlaw07_awake.mono _)
      | (with_reducible exact LeO.refl _)
      | (with_reducible exact LeO.none _)
      | (with_reducible refine LeO.ite ?_ ?_)
      | (with_reducible refine LeO.bind ?_ (fun _ => ?_))
      | exact block_Decode.mono _ _
      | exact block_Encode.mono _ _
      | exact block_Fits.mono _ _
      | exact ferrymanlaw07_awake.mono _
      | exact LeO.none _
      | refine LeO.ite ?_ ?_
      | refine LeO.bind ?_ (fun _ => ?_)
set_option maxHeartbeats 8000000 in
set_option maxRecDepth 100000 in
theorem ferrymanlaw07_BlockOnce.calls (k : Nat) (A0 : Option Addr) (c0 : Nat) (l0 : List Int) (r : Bool) (w : World) (hr0 : Kd.C (Kd.int .u8) w A0 l0.length l0) (hc0 : l0.length ≤ c0) (h : ferrymanlaw07_BlockOnce.f k l0 = some r) :
    Calls Try.prog 8 #[.slice A0 l0.length c0] w fun e w' => e = .returned (.bool r) ∧ Below w.heap.size w w' := by
  have HR0 := Aside0.mk hr0
  have HC0 := Aside0.mk hc0
  clear hr0 hc0
  have HB := Aside0.mk (Below.refl w.heap.size w)
  have H : ((ferrymanlaw07_awake.f k).bind fun t147 => (if (l0.length : Int) > 3000 then (some t147) else ((block_Decode.f k l0).bind fun bt148 => (if bt148.2 = 0 then ((block_Encode.f k bt148.1).bind fun bt152 => (if t147 = true then (if bt152.2 = 0 then (if (strOfNums bt152.1).toList = (strOfNums l0).toList then ((block_Fits.f k bt148.1).bind fun t156 => (some t156)) else (some false)) else (some false)) else (some false))) else (if t147 = true then (some ((bt148.1.length : Int) == 0)) else (some false)))))) = some r := h
  clear h
  replace H := Option.bind_eq_some_iff.mp H
  obtain ⟨t147, A20, H⟩ := H
  replace H : (if (l0.length : Int) > 3000 then (some t147) else ((block_Decode.f k l0).bind fun bt148 => (if bt148.2 = 0 then ((block_Encode.f k bt148.1).bind fun bt152 => (if t147 = true then (if bt152.2 = 0 then (if (strOfNums bt152.1).toList = (strOfNums l0).toList then ((block_Fits.f k bt148.1).bind fun t156 => (some t156)) else (some false)) else (some false)) else (some false))) else (if t147 = true then (some ((bt148.1.length : Int) == 0)) else (some false))))) = some r := H
  have A2 := Aside0.mk A20
  clear A20
  by_cases c3 : (l0.length : Int) > 3000
  · rw [if_pos c3] at H
    have c3b0 : decide (3000 < (l0.length : Int)) = true := decide_eq_true c3
    have c3b1 : decide (3000 < l0.length) = true := decide_eq_true (by omega)
    clear c3
    obtain rfl := Option.some.inj H
    go_enter Try.func8, Try.ntmps8
    go_wp2_with (first | ((with_reducible refine gate_callee (f := 10) rfl ?_); refine goesL_ (some 8) rfl rfl Try.func10 (by kernel_rfl) rfl #[] rfl (by (try simp only [List.map_toArray, List.map_cons, List.map_nil]); first | done | rfl | (simp only [List.length_drop, List.length_take]; rfl)) ?_; (with_reducible refine (ferrymanlaw07_awake.calls k  t147 _ A2.out).mono ?_); rintro e w4 ⟨rfl, hb⟩; refine ⟨_, rfl, ?_⟩; have n0_ := Aside0.mk (below_step (by repeat (first | (with_reducible first | exact HB.out | apply below_alloc | apply pw_below_drewN | apply below_drew1) | exact HB.out)) hb); clear HB; have HB := n0_; clear n0_; (try clear hb); (try clear hb2); (try clear hk); (try clear hi)))
    go_ret
    exact ⟨by first | rfl | (simp [errW_none, errW_some] <;> rfl) | (simp [*, errW_none, errW_some] <;> rfl), by repeat (first | (with_reducible first | exact HB.out | apply below_alloc | apply pw_below_drewN | apply below_drew1) | exact HB.out)⟩
  · rw [if_neg c3] at H
    have c3b0 : decide (3000 < (l0.length : Int)) = false := decide_eq_false c3
    have c3b1 : decide (3000 < l0.length) = false := decide_eq_false (by omega)
    clear c3
    replace H := Option.bind_eq_some_iff.mp H
    obtain ⟨⟨t148, t149⟩, A50, H⟩ := H
    replace H : (if t149 = 0 then ((block_Encode.f k t148).bind fun bt152 => (if t147 = true then (if bt152.2 = 0 then (if (strOfNums bt152.1).toList = (strOfNums l0).toList then ((block_Fits.f k t148).bind fun t156 => (some t156)) else (some false)) else (some false)) else (some false))) else (if t147 = true then (some ((t148.length : Int) == 0)) else (some false))) = some r := H
    have A5 := Aside0.mk A50
    clear A50
    by_cases c6 : t149 = 0
    · rw [if_pos c6] at H
      have c6b0 : (t149 == 0) = true := beq_iff_eq.mpr c6
      have c6b1 : (t149 != 0) = false := bne_eq_false_iff_eq.mpr c6
      clear c6
      replace H := Option.bind_eq_some_iff.mp H
      obtain ⟨⟨t152, t153⟩, A70, H⟩ := H
      replace H : (if t147 = true then (if t153 = 0 then (if (strOfNums t152).toList = (strOfNums l0).toList then ((block_Fits.f k t148).bind fun t156 => (some t156)) else (some false)) else (some false)) else (some false)) = some r := H
      have A7 := Aside0.mk A70
      clear A70
      by_cases c8 : t147 = true
      · subst c8
        have H1 : (if t153 = 0 then (if (strOfNums t152).toList = (strOfNums l0).toList then ((block_Fits.f k t148).bind fun t156 => (some t156)) else (some false)) else (some false)) = some r := by rw [if_pos rfl] at H; exact H
        clear H
        have H := H1
        clear H1
        by_cases c9 : t153 = 0
        · rw [if_pos c9] at H
          have c9b0 : (t153 == 0) = true := beq_iff_eq.mpr c9
          have c9b1 : (t153 != 0) = false := bne_eq_false_iff_eq.mpr c9
          clear c9
          by_cases c10 : (strOfNums t152).toList = (strOfNums l0).toList
          · rw [if_pos c10] at H
            have c10b0 : ((strOfNums t152).toList == (strOfNums l0).toList) = true := beq_iff_eq.mpr c10
            have c10b1 : ((strOfNums t152).toList != (strOfNums l0).toList) = false := bne_eq_false_iff_eq.mpr c10
            clear c10
            replace H := Option.bind_eq_some_iff.mp H
            obtain ⟨t156, A110, H⟩ := H
            replace H : (some t156) = some r := H
            have A11 := Aside0.mk A110
            clear A110
            obtain rfl := Option.some.inj H
            go_enter Try.func8, Try.ntmps8
            have tok3_ : True := trivial; have tok4_ : True := trivial; have tok5_ : True := trivial; have tok6_ : True := trivial
            go_wp2_with (first | ((with_reducible refine gate_callee (f := 10) rfl ?_); clear tok3_; refine goesL_ (some 8) rfl rfl Try.func10 (by kernel_rfl) rfl #[] rfl (by (try simp only [List.map_toArray, List.map_cons, List.map_nil]); first | done | rfl | (simp only [List.length_drop, List.length_take]; rfl)) ?_; (with_reducible refine (ferrymanlaw07_awake.calls k  true _ A2.out).mono ?_); rintro e w12 ⟨rfl, hb⟩; refine ⟨_, rfl, ?_⟩; have n0_ := Aside0.mk (below_step (by repeat (first | (with_reducible first | exact HB.out | apply below_alloc | apply pw_below_drewN | apply below_drew1) | exact HB.out)) hb); clear HB; have HB := n0_; clear n0_; (try clear hb); (try clear hb2); (try clear hk); (try clear hi)) | ((with_reducible refine gate_callee (f := 16) rfl ?_); clear tok4_; refine goesL_ (some 15) rfl rfl Try.func16 (by kernel_rfl) rfl #[.slice A0 l0.length c0] rfl (by (try simp only [List.map_toArray, List.map_cons, List.map_nil]); first | done | rfl | (simp only [List.length_drop, List.length_take]; rfl)) ?_; (with_reducible refine (block_Decode.calls k _ _ l0 t148 t149 _ ?side1 ?side2 A5.out).mono ?_); (case side1 => repeat (first | exact (Kd.C_below HR0.out HB.out) | (with_reducible refine Kd.C_alloc ?_ _) | (with_reducible refine Kd.C_drewN ?_ _) | (with_reducible refine Kd.C_drew ?_))); (case side2 => exact HC0.out); rintro e w13 ⟨v150, rfl, ho0, hb⟩; refine ⟨_, rfl, ?_⟩; have n0_ := Aside0.mk (Kd.R_lower ho0 (below_size (by repeat (first | (with_reducible first | exact HB.out | apply below_alloc | apply pw_below_drewN | apply below_drew1) | exact HB.out)))); have n1_ := Aside0.mk (below_step (by repeat (first | (with_reducible first | exact HB.out | apply below_alloc | apply pw_below_drewN | apply below_drew1) | exact HB.out)) hb); clear HB; have HO151 := n0_; have HB := n1_; clear n0_ n1_; (try clear hb); (try clear hb2); (try clear hk); (try clear hi); (try clear ho0); obtain ⟨Ao14, co14, eo14⟩ := Kd.R_slice HO151.out; subst eo14) | ((with_reducible refine gate_callee (f := 11) rfl ?_); clear tok5_; refine goesL_ (some 28) rfl rfl Try.func11 (by kernel_rfl) rfl #[.slice Ao14 t148.length co14] rfl (by (try simp only [List.map_toArray, List.map_cons, List.map_nil]); first | done | rfl | (simp only [List.length_drop, List.length_take]; rfl)) ?_; (with_reducible refine (block_Encode.calls k _ _ t148 t152 t153 _ ?side1 ?side2 A7.out).mono ?_); (case side1 => repeat (first | exact (Kd.R_reads' HO151.out).2.2 | (with_reducible refine Kd.C_alloc ?_ _) | (with_reducible refine Kd.C_drewN ?_ _) | (with_reducible refine Kd.C_drew ?_))); (case side2 => exact (Kd.R_reads' HO151.out).2.1); rintro e w15 ⟨v154, rfl, ho0, hb⟩; refine ⟨_, rfl, ?_⟩; have n0_ := Aside0.mk (Kd.R_below (by (with_reducible repeat (first | apply Kd.R_alloc | apply Kd.R_drewN | apply Kd.R_drew)); exact HO151.out) hb); have n1_ := Aside0.mk (Kd.R_lower ho0 (below_size (by repeat (first | (with_reducible first | exact HB.out | apply below_alloc | apply pw_below_drewN | apply below_drew1) | exact HB.out)))); have n2_ := Aside0.mk (below_step (by repeat (first | (with_reducible first | exact HB.out | apply below_alloc | apply pw_below_drewN | apply below_drew1) | exact HB.out)) hb); clear HO151; clear HB; have HO151 := n0_; have HO155 := n1_; have HB := n2_; clear n0_ n1_ n2_; (try clear hb); (try clear hb2); (try clear hk); (try clear hi); (try clear ho0); have hcv16 := own_string (P := Try.prog) Try.underlying24 Try.underlying5 Try.underlying9 (Kd.own_of_R HO155.out); have hcv17 := Kd.C_string (P := Try.prog) (A := A0) (c := c0) Try.underlying24 Try.underlying5 Try.underlying9 (Kd.C_below HR0.out HB.out)) | (go_at_call 13; clear tok6_; (with_reducible refine (block_Fits.calls k _ _ t148 t156 _ ?side1 ?side2 A11.out).mono ?_); (case side1 => repeat (first | exact (Kd.R_reads' HO151.out).2.2 | (with_reducible refine Kd.C_alloc ?_ _) | (with_reducible refine Kd.C_drewN ?_ _) | (with_reducible refine Kd.C_drew ?_))); (case side2 => exact (Kd.R_reads' HO151.out).2.1); rintro e w18 ⟨rfl, hb⟩; have n0_ := Aside0.mk (Kd.R_below (by (with_reducible repeat (first | apply Kd.R_alloc | apply Kd.R_drewN | apply Kd.R_drew)); exact HO151.out) hb); have n1_ := Aside0.mk (Kd.R_below (by (with_reducible repeat (first | apply Kd.R_alloc | apply Kd.R_drewN | apply Kd.R_drew)); exact HO155.out) hb); have n2_ := Aside0.mk (below_step (by repeat (first | (with_reducible first | exact HB.out | apply below_alloc | apply pw_below_drewN | apply below_drew1) | exact HB.out)) hb); clear HO151; clear HO155; clear HB; have HO151 := n0_; have HO155 := n1_; have HB := n2_; clear n0_ n1_ n2_; (try clear hb); (try clear hb2); (try clear hk); (try clear hi)))
            go_ret
            exact ⟨by first | rfl | (simp [errW_none, errW_some] <;> rfl) | (simp [*, errW_none, errW_some] <;> rfl), by repeat (first | (with_reducible first | exact HB.out | apply below_alloc | apply pw_below_drewN | apply below_drew1) | exact HB.out)⟩
          · rw [if_neg c10] at H
            have c10b0 : ((strOfNums t152).toList == (strOfNums l0).toList) = false := beq_eq_false_iff_ne.mpr c10
            have c10b1 : ((strOfNums t152).toList != (strOfNums l0).toList) = true := bne_iff_ne.mpr c10
            obtain rfl := Option.some.inj H
            go_enter Try.func8, Try.ntmps8
            have tok7_ : True := trivial; have tok8_ : True := trivial; have tok9_ : True := trivial
            go_wp2_with (first | ((with_reducible refine gate_callee (f := 10) rfl ?_); clear tok7_; refine goesL_ (some 8) rfl rfl Try.func10 (by kernel_rfl) rfl #[] rfl (by (try simp only [List.map_toArray, List.map_cons, List.map_nil]); first | done | rfl | (simp only [List.length_drop, List.length_take]; rfl)) ?_; (with_reducible refine (ferrymanlaw07_awake.calls k  true _ A2.out).mono ?_); rintro e w19 ⟨rfl, hb⟩; refine ⟨_, rfl, ?_⟩; have n0_ := Aside0.mk (below_step (by repeat (first | (with_reducible first | exact HB.out | apply below_alloc | apply pw_below_drewN | apply below_drew1) | exact HB.out)) hb); clear HB; have HB := n0_; clear n0_; (try clear hb); (try clear hb2); (try clear hk); (try clear hi)) | ((with_reducible refine gate_callee (f := 16) rfl ?_); clear tok8_; refine goesL_ (some 15) rfl rfl Try.func16 (by kernel_rfl) rfl #[.slice A0 l0.length c0] rfl (by (try simp only [List.map_toArray, List.map_cons, List.map_nil]); first | done | rfl | (simp only [List.length_drop, List.length_take]; rfl)) ?_; (with_reducible refine (block_Decode.calls k _ _ l0 t148 t149 _ ?side1 ?side2 A5.out).mono ?_); (case side1 => repeat (first | exact (Kd.C_below HR0.out HB.out) | (with_reducible refine Kd.C_alloc ?_ _) | (with_reducible refine Kd.C_drewN ?_ _) | (with_reducible refine Kd.C_drew ?_))); (case side2 => exact HC0.out); rintro e w20 ⟨v150, rfl, ho0, hb⟩; refine ⟨_, rfl, ?_⟩; have n0_ := Aside0.mk (Kd.R_lower ho0 (below_size (by repeat (first | (with_reducible first | exact HB.out | apply below_alloc | apply pw_below_drewN | apply below_drew1) | exact HB.out)))); have n1_ := Aside0.mk (below_step (by repeat (first | (with_reducible first | exact HB.out | apply below_alloc | apply pw_below_drewN | apply below_drew1) | exact HB.out)) hb); clear HB; have HO151 := n0_; have HB := n1_; clear n0_ n1_; (try clear hb); (try clear hb2); (try clear hk); (try clear hi); (try clear ho0); obtain ⟨Ao21, co21, eo21⟩ := Kd.R_slice HO151.out; subst eo21) | ((with_reducible refine gate_callee (f := 11) rfl ?_); clear tok9_; refine goesL_ (some 28) rfl rfl Try.func11 (by kernel_rfl) rfl #[.slice Ao21 t148.length co21] rfl (by (try simp only [List.map_toArray, List.map_cons, List.map_nil]); first | done | rfl | (simp only [List.length_drop, List.length_take]; rfl)) ?_; (with_reducible refine (block_Encode.calls k _ _ t148 t152 t153 _ ?side1 ?side2 A7.out).mono ?_); (case side1 => repeat (first | exact (Kd.R_reads' HO151.out).2.2 | (with_reducible refine Kd.C_alloc ?_ _) | (with_reducible refine Kd.C_drewN ?_ _) | (with_reducible refine Kd.C_drew ?_))); (case side2 => exact (Kd.R_reads' HO151.out).2.1); rintro e w22 ⟨v154, rfl, ho0, hb⟩; refine ⟨_, rfl, ?_⟩; have n0_ := Aside0.mk (Kd.R_below (by (with_reducible repeat (first | apply Kd.R_alloc | apply Kd.R_drewN | apply Kd.R_drew)); exact HO151.out) hb); have n1_ := Aside0.mk (Kd.R_lower ho0 (below_size (by repeat (first | (with_reducible first | exact HB.out | apply below_alloc | apply pw_below_drewN | apply below_drew1) | exact HB.out)))); have n2_ := Aside0.mk (below_step (by repeat (first | (with_reducible first | exact HB.out | apply below_alloc | apply pw_below_drewN | apply below_drew1) | exact HB.out)) hb); clear HO151; clear HB; have HO151 := n0_; have HO155 := n1_; have HB := n2_; clear n0_ n1_ n2_; (try clear hb); (try clear hb2); (try clear hk); (try clear hi); (try clear ho0); have hcv23 := own_string (P := Try.prog) Try.underlying24 Try.underlying5 Try.underlying9 (Kd.own_of_R HO155.out); have hcv24 := Kd.C_string (P := Try.prog) (A := A0) (c := c0) Try.underlying24 Try.underlying5 Try.underlying9 (Kd.C_below HR0.out HB.out)))
            go_ret
            exact ⟨by first | rfl | (simp [errW_none, errW_some] <;> rfl) | (simp [*, errW_none, errW_some] <;> rfl), by repeat (first | (with_reducible first | exact HB.out | apply below_alloc | apply pw_below_drewN | apply below_drew1) | exact HB.out)⟩
        · rw [if_neg c9] at H
          have c9b0 : (t153 == 0) = false := beq_eq_false_iff_ne.mpr c9
          have c9b1 : (t153 != 0) = true := bne_iff_ne.mpr c9
          obtain rfl := Option.some.inj H
          go_enter Try.func8, Try.ntmps8
          have tok10_ : True := trivial; have tok11_ : True := trivial; have tok12_ : True := trivial
          go_wp2_with (first | ((with_reducible refine gate_callee (f := 10) rfl ?_); clear tok10_; refine goesL_ (some 8) rfl rfl Try.func10 (by kernel_rfl) rfl #[] rfl (by (try simp only [List.map_toArray, List.map_cons, List.map_nil]); first | done | rfl | (simp only [List.length_drop, List.length_take]; rfl)) ?_; (with_reducible refine (ferrymanlaw07_awake.calls k  true _ A2.out).mono ?_); rintro e w25 ⟨rfl, hb⟩; refine ⟨_, rfl, ?_⟩; have n0_ := Aside0.mk (below_step (by repeat (first | (with_reducible first | exact HB.out | apply below_alloc | apply pw_below_drewN | apply below_drew1) | exact HB.out)) hb); clear HB; have HB := n0_; clear n0_; (try clear hb); (try clear hb2); (try clear hk); (try clear hi)) | ((with_reducible refine gate_callee (f := 16) rfl ?_); clear tok11_; refine goesL_ (some 15) rfl rfl Try.func16 (by kernel_rfl) rfl #[.slice A0 l0.length c0] rfl (by (try simp only [List.map_toArray, List.map_cons, List.map_nil]); first | done | rfl | (simp only [List.length_drop, List.length_take]; rfl)) ?_; (with_reducible refine (block_Decode.calls k _ _ l0 t148 t149 _ ?side1 ?side2 A5.out).mono ?_); (case side1 => repeat (first | exact (Kd.C_below HR0.out HB.out) | (with_reducible refine Kd.C_alloc ?_ _) | (with_reducible refine Kd.C_drewN ?_ _) | (with_reducible refine Kd.C_drew ?_))); (case side2 => exact HC0.out); rintro e w26 ⟨v150, rfl, ho0, hb⟩; refine ⟨_, rfl, ?_⟩; have n0_ := Aside0.mk (Kd.R_lower ho0 (below_size (by repeat (first | (with_reducible first | exact HB.out | apply below_alloc | apply pw_below_drewN | apply below_drew1) | exact HB.out)))); have n1_ := Aside0.mk (below_step (by repeat (first | (with_reducible first | exact HB.out | apply below_alloc | apply pw_below_drewN | apply below_drew1) | exact HB.out)) hb); clear HB; have HO151 := n0_; have HB := n1_; clear n0_ n1_; (try clear hb); (try clear hb2); (try clear hk); (try clear hi); (try clear ho0); obtain ⟨Ao27, co27, eo27⟩ := Kd.R_slice HO151.out; subst eo27) | ((with_reducible refine gate_callee (f := 11) rfl ?_); clear tok12_; refine goesL_ (some 28) rfl rfl Try.func11 (by kernel_rfl) rfl #[.slice Ao27 t148.length co27] rfl (by (try simp only [List.map_toArray, List.map_cons, List.map_nil]); first | done | rfl | (simp only [List.length_drop, List.length_take]; rfl)) ?_; (with_reducible refine (block_Encode.calls k _ _ t148 t152 t153 _ ?side1 ?side2 A7.out).mono ?_); (case side1 => repeat (first | exact (Kd.R_reads' HO151.out).2.2 | (with_reducible refine Kd.C_alloc ?_ _) | (with_reducible refine Kd.C_drewN ?_ _) | (with_reducible refine Kd.C_drew ?_))); (case side2 => exact (Kd.R_reads' HO151.out).2.1); rintro e w28 ⟨v154, rfl, ho0, hb⟩; refine ⟨_, rfl, ?_⟩; have n0_ := Aside0.mk (Kd.R_below (by (with_reducible repeat (first | apply Kd.R_alloc | apply Kd.R_drewN | apply Kd.R_drew)); exact HO151.out) hb); have n1_ := Aside0.mk (Kd.R_lower ho0 (below_size (by repeat (first | (with_reducible first | exact HB.out | apply below_alloc | apply pw_below_drewN | apply below_drew1) | exact HB.out)))); have n2_ := Aside0.mk (below_step (by repeat (first | (with_reducible first | exact HB.out | apply below_alloc | apply pw_below_drewN | apply below_drew1) | exact HB.out)) hb); clear HO151; clear HB; have HO151 := n0_; have HO155 := n1_; have HB := n2_; clear n0_ n1_ n2_; (try clear hb); (try clear hb2); (try clear hk); (try clear hi); (try clear ho0)))
          go_ret
          exact ⟨by first | rfl | (simp [errW_none, errW_some] <;> rfl) | (simp [*, errW_none, errW_some] <;> rfl), by repeat (first | (with_reducible first | exact HB.out | apply below_alloc | apply pw_below_drewN | apply below_drew1) | exact HB.out)⟩
      · replace c8 := Bool.eq_false_iff.mpr c8
        subst c8
        have H1 : (some false) = some r := by rw [if_neg (show ¬ (false = true) by decide)] at H; exact H
        clear H
        have H := H1
        clear H1
        obtain rfl := Option.some.inj H
        go_enter Try.func8, Try.ntmps8
        have tok13_ : True := trivial; have tok14_ : True := trivial; have tok15_ : True := trivial
        go_wp2_with (first | ((with_reducible refine gate_callee (f := 10) rfl ?_); clear tok13_; refine goesL_ (some 8) rfl rfl Try.func10 (by kernel_rfl) rfl #[] rfl (by (try simp only [List.map_toArray, List.map_cons, List.map_nil]); first | done | rfl | (simp only [List.length_drop, List.length_take]; rfl)) ?_; (with_reducible refine (ferrymanlaw07_awake.calls k  false _ A2.out).mono ?_); rintro e w29 ⟨rfl, hb⟩; refine ⟨_, rfl, ?_⟩; have n0_ := Aside0.mk (below_step (by repeat (first | (with_reducible first | exact HB.out | apply below_alloc | apply pw_below_drewN | apply below_drew1) | exact HB.out)) hb); clear HB; have HB := n0_; clear n0_; (try clear hb); (try clear hb2); (try clear hk); (try clear hi)) | ((with_reducible refine gate_callee (f := 16) rfl ?_); clear tok14_; refine goesL_ (some 15) rfl rfl Try.func16 (by kernel_rfl) rfl #[.slice A0 l0.length c0] rfl (by (try simp only [List.map_toArray, List.map_cons, List.map_nil]); first | done | rfl | (simp only [List.length_drop, List.length_take]; rfl)) ?_; (with_reducible refine (block_Decode.calls k _ _ l0 t148 t149 _ ?side1 ?side2 A5.out).mono ?_); (case side1 => repeat (first | exact (Kd.C_below HR0.out HB.out) | (with_reducible refine Kd.C_alloc ?_ _) | (with_reducible refine Kd.C_drewN ?_ _) | (with_reducible refine Kd.C_drew ?_))); (case side2 => exact HC0.out); rintro e w30 ⟨v150, rfl, ho0, hb⟩; refine ⟨_, rfl, ?_⟩; have n0_ := Aside0.mk (Kd.R_lower ho0 (below_size (by repeat (first | (with_reducible first | exact HB.out | apply below_alloc | apply pw_below_drewN | apply below_drew1) | exact HB.out)))); have n1_ := Aside0.mk (below_step (by repeat (first | (with_reducible first | exact HB.out | apply below_alloc | apply pw_below_drewN | apply below_drew1) | exact HB.out)) hb); clear HB; have HO151 := n0_; have HB := n1_; clear n0_ n1_; (try clear hb); (try clear hb2); (try clear hk); (try clear hi); (try clear ho0); obtain ⟨Ao31, co31, eo31⟩ := Kd.R_slice HO151.out; subst eo31) | ((with_reducible refine gate_callee (f := 11) rfl ?_); clear tok15_; refine goesL_ (some 28) rfl rfl Try.func11 (by kernel_rfl) rfl #[.slice Ao31 t148.length co31] rfl (by (try simp only [List.map_toArray, List.map_cons, List.map_nil]); first | done | rfl | (simp only [List.length_drop, List.length_take]; rfl)) ?_; (with_reducible refine (block_Encode.calls k _ _ t148 t152 t153 _ ?side1 ?side2 A7.out).mono ?_); (case side1 => repeat (first | exact (Kd.R_reads' HO151.out).2.2 | (with_reducible refine Kd.C_alloc ?_ _) | (with_reducible refine Kd.C_drewN ?_ _) | (with_reducible refine Kd.C_drew ?_))); (case side2 => exact (Kd.R_reads' HO151.out).2.1); rintro e w32 ⟨v154, rfl, ho0, hb⟩; refine ⟨_, rfl, ?_⟩; have n0_ := Aside0.mk (Kd.R_below (by (with_reducible repeat (first | apply Kd.R_alloc | apply Kd.R_drewN | apply Kd.R_drew)); exact HO151.out) hb); have n1_ := Aside0.mk (Kd.R_lower ho0 (below_size (by repeat (first | (with_reducible first | exact HB.out | apply below_alloc | apply pw_below_drewN | apply below_drew1) | exact HB.out)))); have n2_ := Aside0.mk (below_step (by repeat (first | (with_reducible first | exact HB.out | apply below_alloc | apply pw_below_drewN | apply below_drew1) | exact HB.out)) hb); clear HO151; clear HB; have HO151 := n0_; have HO155 := n1_; have HB := n2_; clear n0_ n1_ n2_; (try clear hb); (try clear hb2); (try clear hk); (try clear hi); (try clear ho0)))
        go_ret
        exact ⟨by first | rfl | (simp [errW_none, errW_some] <;> rfl) | (simp [*, errW_none, errW_some] <;> rfl), by repeat (first | (with_reducible first | exact HB.out | apply below_alloc | apply pw_below_drewN | apply below_drew1) | exact HB.out)⟩
    · rw [if_neg c6] at H
      have c6b0 : (t149 == 0) = false := beq_eq_false_iff_ne.mpr c6
      have c6b1 : (t149 != 0) = true := bne_iff_ne.mpr c6
      by_cases c33 : t147 = true
      · subst c33
        have H1 : (some ((t148.length : Int) == 0)) = some r := by rw [if_pos rfl] at H; exact H
        clear H
        have H := H1
        clear H1
        obtain rfl := Option.some.inj H
        go_enter Try.func8, Try.ntmps8
        have tok16_ : True := trivial; have tok17_ : True := trivial
        go_wp2_with (first | ((with_reducible refine gate_callee (f := 10) rfl ?_); clear tok16_; refine goesL_ (some 8) rfl rfl Try.func10 (by kernel_rfl) rfl #[] rfl (by (try simp only [List.map_toArray, List.map_cons, List.map_nil]); first | done | rfl | (simp only [List.length_drop, List.length_take]; rfl)) ?_; (with_reducible refine (ferrymanlaw07_awake.calls k  true _ A2.out).mono ?_); rintro e w34 ⟨rfl, hb⟩; refine ⟨_, rfl, ?_⟩; have n0_ := Aside0.mk (below_step (by repeat (first | (with_reducible first | exact HB.out | apply below_alloc | apply pw_below_drewN | apply below_drew1) | exact HB.out)) hb); clear HB; have HB := n0_; clear n0_; (try clear hb); (try clear hb2); (try clear hk); (try clear hi)) | ((with_reducible refine gate_callee (f := 16) rfl ?_); clear tok17_; refine goesL_ (some 15) rfl rfl Try.func16 (by kernel_rfl) rfl #[.slice A0 l0.length c0] rfl (by (try simp only [List.map_toArray, List.map_cons, List.map_nil]); first | done | rfl | (simp only [List.length_drop, List.length_take]; rfl)) ?_; (with_reducible refine (block_Decode.calls k _ _ l0 t148 t149 _ ?side1 ?side2 A5.out).mono ?_); (case side1 => repeat (first | exact (Kd.C_below HR0.out HB.out) | (with_reducible refine Kd.C_alloc ?_ _) | (with_reducible refine Kd.C_drewN ?_ _) | (with_reducible refine Kd.C_drew ?_))); (case side2 => exact HC0.out); rintro e w35 ⟨v150, rfl, ho0, hb⟩; refine ⟨_, rfl, ?_⟩; have n0_ := Aside0.mk (Kd.R_lower ho0 (below_size (by repeat (first | (with_reducible first | exact HB.out | apply below_alloc | apply pw_below_drewN | apply below_drew1) | exact HB.out)))); have n1_ := Aside0.mk (below_step (by repeat (first | (with_reducible first | exact HB.out | apply below_alloc | apply pw_below_drewN | apply below_drew1) | exact HB.out)) hb); clear HB; have HO151 := n0_; have HB := n1_; clear n0_ n1_; (try clear hb); (try clear hb2); (try clear hk); (try clear hi); (try clear ho0); obtain ⟨Ao36, co36, eo36⟩ := Kd.R_slice HO151.out; subst eo36))
        go_ret
        exact ⟨by first | rfl | (simp [errW_none, errW_some] <;> rfl) | (simp [*, errW_none, errW_some] <;> rfl), by repeat (first | (with_reducible first | exact HB.out | apply below_alloc | apply pw_below_drewN | apply below_drew1) | exact HB.out)⟩
      · replace c33 := Bool.eq_false_iff.mpr c33
        subst c33
        have H1 : (some false) = some r := by rw [if_neg (show ¬ (false = true) by decide)] at H; exact H
        clear H
        have H := H1
        clear H1
        obtain rfl := Option.some.inj H
        go_enter Try.func8, Try.ntmps8
        have tok18_ : True := trivial; have tok19_ : True := trivial
        go_wp2_with (first | ((with_reducible refine gate_callee (f := 10) rfl ?_); clear tok18_; refine goesL_ (some 8) rfl rfl Try.func10 (by kernel_rfl) rfl #[] rfl (by (try simp only [List.map_toArray, List.map_cons, List.map_nil]); first | done | rfl | (simp only [List.length_drop, List.length_take]; rfl)) ?_; (with_reducible refine (ferrymanlaw07_awake.calls k  false _ A2.out).mono ?_); rintro e w37 ⟨rfl, hb⟩; refine ⟨_, rfl, ?_⟩; have n0_ := Aside0.mk (below_step (by repeat (first | (with_reducible first | exact HB.out | apply below_alloc | apply pw_below_drewN | apply below_drew1) | exact HB.out)) hb); clear HB; have HB := n0_; clear n0_; (try clear hb); (try clear hb2); (try clear hk); (try clear hi)) | ((with_reducible refine gate_callee (f := 16) rfl ?_); clear tok19_; refine goesL_ (some 15) rfl rfl Try.func16 (by kernel_rfl) rfl #[.slice A0 l0.length c0] rfl (by (try simp only [List.map_toArray, List.map_cons, List.map_nil]); first | done | rfl | (simp only [List.length_drop, List.length_take]; rfl)) ?_; (with_reducible refine (block_Decode.calls k _ _ l0 t148 t149 _ ?side1 ?side2 A5.out).mono ?_); (case side1 => repeat (first | exact (Kd.C_below HR0.out HB.out) | (with_reducible refine Kd.C_alloc ?_ _) | (with_reducible refine Kd.C_drewN ?_ _) | (with_reducible refine Kd.C_drew ?_))); (case side2 => exact HC0.out); rintro e w38 ⟨v150, rfl, ho0, hb⟩; refine ⟨_, rfl, ?_⟩; have n0_ := Aside0.mk (Kd.R_lower ho0 (below_size (by repeat (first | (with_reducible first | exact HB.out | apply below_alloc | apply pw_below_drewN | apply below_drew1) | exact HB.out)))); have n1_ := Aside0.mk (below_step (by repeat (first | (with_reducible first | exact HB.out | apply below_alloc | apply pw_below_drewN | apply below_drew1) | exact HB.out)) hb); clear HB; have HO151 := n0_; have HB := n1_; clear n0_ n1_; (try clear hb); (try clear hb2); (try clear hk); (try clear hi); (try clear ho0)))
        go_ret
        exact ⟨by first | rfl | (simp [errW_none, errW_some] <;> rfl) | (simp [*, errW_none, errW_some] <;> rfl), by repeat (first | (with_reducible first | exact HB.out | apply below_alloc | apply pw_below_drewN | apply below_drew1) | exact HB.out)⟩

/-- THE ONE PURE STATEMENT of ferrymanlaw07_BlockOnce: yours. -/
def ferrymanlaw07_BlockOnce.Pure : Prop := ∀ (l0 : List Int), l0.length ≤ maxLen → l0.length * 1 ≤ 140737488351232 → (∀ x ∈ l0, (Lit.int .u8 x).wf = true) → ∃ k, ferrymanlaw07_BlockOnce.f k l0 = some true
theorem ferrymanlaw07_BlockOnce.walk (P : ferrymanlaw07_BlockOnce.Pure) (a0 : Option Addr) (len0 cap0 : Nat) (z0 : List Int) (w : World) (w0 : (a0 = none ∧ len0 = 0 ∧ cap0 = 0 ∧ z0 = []) ∨ ∃ x, a0 = some x ∧ len0 ≤ cap0 ∧ cap0 ≤ maxLen ∧ z0.length = cap0 ∧ (∀ i, i < z0.length → w.cell? (x.add i) = some (.int .u8 (z0.getD i 0))) ∧ ∀ n ∈ z0, (Lit.int .u8 n).wf = true) (y0 : len0 * 1 ≤ 140737488351232) :
    Calls Try.prog 8 #[.slice a0 len0 cap0] w fun e w' => e = .returned (.bool true) ∧ Below w.heap.size w w' := by
  obtain ⟨l0, rfl, hr0, hm0, hw0, hc0⟩ := ReadsInt.ofRowC w0
  obtain ⟨k, h⟩ := P l0 hm0 y0 hw0
  refine (ferrymanlaw07_BlockOnce.calls k _ _ l0 true w (Kd.C_of_reads (d := (0 : Int)) (h1 := fun _ => rfl) hr0) hc0 h).mono ?_
  rintro e w' ⟨rfl, hd⟩
  exact ⟨rfl, hd⟩

end Go.Proofs.Ytecddphmnoegdaa.QBlockOnce
