/- What this text proves: what objs.Start, objs.May and objs.number come to at a counter that begins; conditions: the counter's list is read. -/
import Derived.Test.YtgljebaiakhbfaaGreatAwPut
import Derived.Test.YtgljebaiakhbfaaGreatQTopUpgradesyA1
namespace Go.Proofs.YtgljebaiakhbfaaGreat.Aw
open Go.RowKit Go.Maps Go.Sort Go.Shelf Go.Proofs Go.Proofs.YtgljebaiakhbfaaGreatW.PrintWords Go.Proofs.YtgljebaiakhbfaaGreatW.PrintLast Go.Proofs.YtgljebaiakhbfaaGreatW.PrintMore
set_option linter.unusedVariables false
set_option maxRecDepth 100000
set_option maxHeartbeats 4000000
/-- A number in a block of its own. -/
theorem one_row {w : World} {g base : Nat} {x : Int} {P : Nat → Prop} (h : w.heap[g]? = some (.cells #[.int .i64 x] 3 (0, 0))) (hb : base ≤ g) (hP : P g) : Kd.R (Kd.int .i64) 3 w base P (.slice (some ⟨g, 0, none⟩) 1 1) [x] := by
  refine ⟨fun k hk => ?_, [.int .i64 x], ⟨rfl, .inr ⟨g, 1, #[.int .i64 x], rfl, hb, h, Nat.le_refl _, by decide, rfl, rfl⟩⟩, rfl, fun j p hj => ?_⟩
  · have : g = k := by simpa [Value.ownBlock] using hk
    exact this ▸ hP
  · rcases j with _ | j
    · simp only [List.getElem?_cons_zero, Option.some.injEq] at hj
      subst hj
      rfl
    · simp at hj
theorem ob_put4 {W : World} {g t : Nat} {a0 a1 a2 a3 b0 b1 b2 b3 : Value} (h : W.heap[g]? = some (.cells #[a0, a1, a2, a3] t (0, 0))) : ((((W.setCell ⟨g, 0, none⟩ b0).setCell ⟨g, 1, none⟩ b1).setCell ⟨g, 2, none⟩ b2).setCell ⟨g, 3, none⟩ b3).heap[g]? = some (.cells #[b0, b1, b2, b3] t (0, 0)) := by
  have h0 := blk_put h 0 b0 (cs' := #[b0, a1, a2, a3]) rfl
  have h1 := blk_put h0 1 b1 (cs' := #[b0, b1, a2, a3]) rfl
  have h2 := blk_put h1 2 b2 (cs' := #[b0, b1, b2, a3]) rfl
  exact blk_put h2 3 b3 rfl
theorem ob_far4 {W : World} {g k t : Nat} {cs : Array Value} {b0 b1 b2 b3 : Value} (h : W.heap[k]? = some (.cells cs t (0, 0))) (hk : k ≠ g) : ((((W.setCell ⟨g, 0, none⟩ b0).setCell ⟨g, 1, none⟩ b1).setCell ⟨g, 2, none⟩ b2).setCell ⟨g, 3, none⟩ b3).heap[k]? = some (.cells cs t (0, 0)) :=
  blk_far (p := ⟨g, 3, none⟩) (blk_far (p := ⟨g, 2, none⟩) (blk_far (p := ⟨g, 1, none⟩) (blk_far (p := ⟨g, 0, none⟩) h hk _) hk _) hk _) hk _
theorem ob_below4 {w W : World} {g : Nat} {b0 b1 b2 b3 : Value} (hb : RowKit.Below w.heap.size w W) (hG : w.heap.size ≤ g) : RowKit.Below w.heap.size w ((((W.setCell ⟨g, 0, none⟩ b0).setCell ⟨g, 1, none⟩ b1).setCell ⟨g, 2, none⟩ b2).setCell ⟨g, 3, none⟩ b3) :=
  below_set (below_set (below_set (below_set hb hG) hG) hG) hG
theorem start_calls (w : World) : Calls Tryz.prog 61 #[.int .i64 0] w fun e w' => ∃ v1_ : Value, e = .returned (.agg #[.int .i64 0, v1_, .bool false, .int .i64 0]) ∧ Kd.R (Kd.int .i64) 3 w' w.heap.size (fun _ => True) v1_ [0] ∧ RowKit.Below w.heap.size w w' := by
  have hu36 := Tryz.underlying36
  go_enter Tryz.func61, Tryz.ntmps61
  go_wp2
  refine bodyPost_ret_by (v := .agg #[.int .i64 0, .slice (some ⟨w.heap.size + 1, 0, none⟩) 1 1, .bool false, .int .i64 0]) (results_cell_row Tryz.results61 _ _ w.heap.size 36 #[.int .i64 0, .slice (some ⟨w.heap.size + 1, 0, none⟩) 1 1, .bool false, .int .i64 0] (0, 0) _ rfl (blk_alloc (blk_new w _) _) Tryz.underlying36 rfl (by kernel_rfl)) rfl ⟨_, rfl, ?_, below_alloc (below_alloc (Below.refl _ _) _) _⟩
  have h := blk_new (w.alloc (.cells #[.int .i64 0, .slice (some ⟨w.heap.size + 1, 0, none⟩) 1 1, .bool false, .int .i64 0] 36)) (.cells #[.int .i64 0] 3)
  rw [World.size_alloc] at h
  exact one_row h (by omega) trivial
theorem may_calls (A : Option Addr) (c : Nat) (w : World) (hC : Kd.C (Kd.int .i64) w A 1 [0]) (hc : 1 ≤ c) : Calls Tryz.prog 21 #[.agg #[.int .i64 0, .slice A 1 c, .bool false, .int .i64 0]] w fun e w' => e = .returned (.bool true) ∧ RowKit.Below w.heap.size w w' := by
  have hu36 := Tryz.underlying36
  have HC := Aside0.mk (And.intro hC hc)
  have hf : QTopUpgrades.slices_ContainsFunc_int_int.f [0] 0 = some false := by kernel_rfl
  have HF := Aside0.mk hf
  clear hC hc hf
  go_enter Tryz.func21, Tryz.ntmps21
  go_wp2_with (go_at_call 50; refine (QTopUpgrades.slices_ContainsFunc_int_int.calls A c [0] 0 false _ (Kd.C_alloc HC.out.1 _) HC.out.2 HF.out).mono ?_; rintro e w1 ⟨rfl, ⟨q, rfl⟩⟩)
  go_ret
  exact ⟨rfl, pw_below_drewN (below_alloc (Below.refl _ _) _) _⟩
theorem number_calls (P : Nat → Prop) (u : Value) (w0 w : World) (hB : RowKit.Below w0.heap.size w0 w) (ho : Kd.R (Kd.int .i64) 3 w w0.heap.size P u [0]) :
    Calls Tryz.prog 163 #[.agg #[.int .i64 0, u, .bool false, .int .i64 0], .agg #[.int .i64 1, .int .i64 5, .int .i64 0]] w fun e w' => ∃ v1_ : Value, e = .returned (.tuple #[.agg #[.int .i64 0, v1_, .bool false, .int .i64 0], .int .i64 0]) ∧ Kd.R (Kd.int .i64) 3 w' w0.heap.size (fun k_ => P k_ ∨ w.heap.size ≤ k_) v1_ [5] ∧ RowKit.Below w0.heap.size w0 w' ∧ Kept w w' (fun k_ => P k_) := by
  have hu36 := Tryz.underlying36
  have hu38 := Tryz.underlying38
  obtain ⟨A, c, rfl⟩ := Kd.R_slice ho
  obtain ⟨ad, hA, hx⟩ := Kd.at_int (Kd.R_reads' ho).2.2 0 (by omega) (by decide)
  subst hA
  rw [show ad.add (0 : Int).toNat = ad from by cases ad; simp [Addr.add], show rd [0] 0 = 0 from rfl] at hx
  have hlt := World.block_lt_of_cell? _ _ hx
  have HB := Aside0.mk (And.intro hB hlt)
  clear ho hB hlt
  go_enter Tryz.func163, Tryz.ntmps163
  go_upto_region 1 with fail
  obtain ⟨B, hB⟩ : ∃ B, B = w.heap.size := ⟨_, rfl⟩
  obtain ⟨w1, hw1⟩ : ∃ w1, w1 = (((w.alloc (.cells #[.int .i64 0, .slice (some ad) 1 c, .bool false, .int .i64 0] 36)).alloc (.cells #[.int .i64 1, .int .i64 5, .int .i64 0] 38)).alloc (.cells #[.int .i64 0, .slice none 0 0, .bool false, .int .i64 0] 36)) := ⟨_, rfl⟩
  have H1 := Aside0.mk (show w1.heap[B]? = some (.cells #[.int .i64 0, .slice (some ad) 1 c, .bool false, .int .i64 0] 36 (0, 0)) by rw [hw1, hB]; exact blk_alloc (blk_alloc (blk_new w _) _) _)
  have H2 := Aside0.mk (show w1.heap[B + 1]? = some (.cells #[.int .i64 1, .int .i64 5, .int .i64 0] 38 (0, 0)) by
    have h := blk_new (w.alloc (.cells #[.int .i64 0, .slice (some ad) 1 c, .bool false, .int .i64 0] 36)) (.cells #[.int .i64 1, .int .i64 5, .int .i64 0] 38)
    rw [World.size_alloc] at h
    rw [hw1, hB]
    exact blk_alloc h _)
  have H3 := Aside0.mk (show w1.heap[B + 1 + 1]? = some (.cells #[.int .i64 0, .slice none 0 0, .bool false, .int .i64 0] 36 (0, 0)) by
    have h := blk_new ((w.alloc (.cells #[.int .i64 0, .slice (some ad) 1 c, .bool false, .int .i64 0] 36)).alloc (.cells #[.int .i64 1, .int .i64 5, .int .i64 0] 38)) (.cells #[.int .i64 0, .slice none 0 0, .bool false, .int .i64 0] 36)
    rw [World.size_alloc, World.size_alloc] at h
    rw [hw1, hB]
    exact h)
  have HW := Aside0.mk (show RowKit.Below w.heap.size w w1 by rw [hw1]; exact below_alloc (below_alloc (below_alloc (Below.refl _ _) _) _) _)
  have hx1 : w1.cell? ad = some (.int .i64 0) := (HW.out.cell HB.out.2).trans hx
  have HS := Aside0.mk hB
  rw [← hw1, ← hB]
  clear hw1 hB hx
  have hc1 := (fun i => blk_cell H1.out i)
  have hc2 := (fun i => blk_cell H2.out i)
  have hcut : QTopUpgrades.objs_cut.f 5 = some 5 := by kernel_rfl
  have HCUT := Aside0.mk hcut
  clear hcut
  have tok1 : True := trivial
  go_upto_region 6 with (first
    | (go_at_call 52; clear tok1; refine (QTopUpgrades.objs_cut.calls 5 5 _ HCUT.out).mono ?_; rintro e w2 ⟨rfl, hb⟩; have H1' := Aside0.mk (blk_below H1.out hb); have H2' := Aside0.mk (blk_below H2.out hb); have H3' := Aside0.mk (blk_below H3.out hb); have HW' := Aside0.mk (below_step HW.out hb); clear hb)
    | (go_at_call 52; refine (QTopUpgrades.objs_cut.calls 5 5 _ HCUT.out).mono ?_; rintro e w3 ⟨rfl, hb⟩; have H1'' := Aside0.mk (blk_below H1'.out hb); have H3'' := Aside0.mk (blk_below H3'.out hb); have HW'' := Aside0.mk (below_step HW'.out hb); clear hb hc1 hc2 hx1; have hz := (fun i => blk_frozen H1''.out i); have hc := (fun i => blk_cell H1''.out i); have hlt := blk_lt H1''.out))
  obtain ⟨g, hg⟩ : ∃ g, g = w3.heap.size := ⟨_, rfl⟩
  obtain ⟨w5, hw5⟩ : ∃ w5, w5 = (w3.setCell ⟨B, 1, none⟩ (.slice (some ⟨g, 0, none⟩) 1 1)).alloc (.cells #[.int .i64 5] 3) := ⟨_, rfl⟩
  have hlt3 := blk_lt H3''.out
  have K1 := Aside0.mk (show w5.heap[B]? = some (.cells #[.int .i64 0, .slice (some ⟨g, 0, none⟩) 1 1, .bool false, .int .i64 0] 36 (0, 0)) by rw [hw5]; exact blk_alloc (blk_put H1''.out 1 _ rfl) _)
  have K3 := Aside0.mk (show w5.heap[B + 1 + 1]? = some (.cells #[.int .i64 0, .slice none 0 0, .bool false, .int .i64 0] 36 (0, 0)) by rw [hw5]; exact blk_alloc (blk_far H3''.out (p := ⟨B, 1, none⟩) (by show B + 1 + 1 ≠ B; omega) _) _)
  have KG := Aside0.mk (show w5.heap[g]? = some (.cells #[.int .i64 5] 3 (0, 0)) by
    have h := blk_new (w3.setCell ⟨B, 1, none⟩ (.slice (some ⟨g, 0, none⟩) 1 1)) (.cells #[.int .i64 5] 3)
    rw [show (w3.setCell ⟨B, 1, none⟩ (.slice (some ⟨g, 0, none⟩) 1 1)).heap.size = g by simp [hg]] at h
    rw [hw5]
    exact h)
  have KW := Aside0.mk (show RowKit.Below w.heap.size w w5 by rw [hw5]; exact below_alloc (below_set HW''.out (by show w.heap.size ≤ B; rw [HS.out]; exact Nat.le_refl _)) _)
  have KN := Aside0.mk (show g ≠ B + 1 + 1 ∧ w.heap.size ≤ g ∧ w.heap.size ≤ B + 1 + 1 by have := HS.out; have := below_size HW''.out; omega)
  rw [← hg, ← hw5]
  clear hw5 hg hz hc hlt hlt3
  have hc := (fun i => blk_cell K1.out i)
  have hz := (fun i => blk_frozen K3.out i)
  have hc3 := (fun i => blk_cell K3.out i)
  go_wp2
  refine bodyPost_ret (results_ct rfl _ _ (B + 1 + 1) 36 #[.int .i64 0, .slice (some ⟨g, 0, none⟩) 1 1, .bool false, .int .i64 0] (0, 0) _ rfl (ob_put4 K3.out) Tryz.underlying36 rfl (by kernel_rfl)) rfl ⟨.slice (some ⟨g, 0, none⟩) 1 1, rfl, one_row (ob_far4 KG.out KN.out.1) (Nat.le_trans (below_size HB.out.1) KN.out.2.1) (.inr KN.out.2.1), below_step HB.out.1 (ob_below4 KW.out KN.out.2.2), Kept.of_below (ob_below4 KW.out KN.out.2.2) _⟩
end Go.Proofs.YtgljebaiakhbfaaGreat.Aw
