/- What this text proves: the functions that a law reaches, as functions on numbers and lists, and that Go's come to their answers; no condition. Written by the kit's print program, turned (wip/tools/patch_print.py, pick.py). -/
import Derived.Test.YtgljebaiakhbfaaGreatQTopFormsx0
import Derived.Test.YtgljebaiakhbfaaGreatQTopFormsyA0
namespace Go.Proofs.YtgljebaiakhbfaaGreat.QTopForms
open Go.RowKit Go.Proofs.YtgljebaiakhbfaaGreatW.PrintWords Go.Proofs.YtgljebaiakhbfaaGreatW.PrintLast Go.Proofs.YtgljebaiakhbfaaGreatW.PrintMore
attribute [local go_sem] max2_int min2_int max_two min_two max_three min_three max_four min_four   -- for this text's walks alone
set_option linter.unusedVariables false
set_option linter.unusedSimpArgs false
/-! ### codec_PutOp: function 10 -/
def codec_PutOp.f (k : Nat) (l0 : List Int) (a1_0 : Int) (a1_1 : Int) (a1_2 : Int) : Option (List Int × Int) := (objs_Fits.f a1_0 a1_1 a1_2).bind fun t393 => (if t393 = true then ((num_Put.f k l0 a1_0).bind fun t394 => ((num_PutSigned.f k t394 a1_1).bind fun t397 => ((num_PutSigned.f k t397 a1_2).bind fun t400 => (some (t400, 0))))) else (some (l0, 1)))
theorem codec_PutOp.mono : ∀ a0 a1 a2 a3 k, LeO (codec_PutOp.f k a0 a1 a2 a3) (codec_PutOp.f (k + 1) a0 a1 a2 a3) := by
  intro a0 a1 a2 a3 k
  unfold codec_PutOp.f
  repeat' first
      | (with_reducible exact num_Put.mono _ _ _)
      | (with_reducible exact num_PutSigned.mono _ _ _)
      | (with_reducible exact LeO.refl _)
      | (with_reducible exact LeO.none _)
      | (with_reducible refine LeO.ite ?_ ?_)
      | (with_reducible refine LeO.bind ?_ (fun _ => ?_))
      | exact num_Put.mono _ _ _
      | exact num_PutSigned.mono _ _ _
      | exact LeO.none _
      | refine LeO.ite ?_ ?_
      | refine LeO.bind ?_ (fun _ => ?_)
def codec_PutOp.T3 : Bool × List (List Nat × List Nat) := (true, [([], []), ([], []), ([1], [1]), ([0, 2], [0, 2]), ([], []), ([4], [4]), ([3, 5, 3], [3, 5]), ([], []), ([7], [7]), ([6, 8, 6], [6, 8]), ([9, 9, 0, 1, 2, 3, 4, 5, 6, 7, 8, 9], [9]), ([10, 0, 1, 2, 3, 4, 5, 6, 7, 8, 9, 10], [])])
def codec_PutOp.B3 : List Nat := [0, 0, 2, 7, 0, 16, 63, 0, 128, 511, 1023, 2047]
theorem codec_PutOp.tab3 : rtab .any (opsOf Tryz.f10 3) = codec_PutOp.T3 := by kernel_rfl
theorem codec_PutOp.bits3 : waitsOk codec_PutOp.T3.2 codec_PutOp.B3 = true := by kernel_rfl
set_option maxHeartbeats 8000000 in
set_option maxRecDepth 100000 in
theorem codec_PutOp.calls (k : Nat) (P0_ : Nat → Prop) (u9000_ : Value) (l0 : List Int) (a1_0 : Int) (a1_1 : Int) (a1_2 : Int) (r1 : List Int) (r2 : Int) (w0 w : World) (hB : Below w0.heap.size w0 w) (ho0 : Kd.R (Kd.int .u8) 5 w w0.heap.size P0_ u9000_ l0) (h : codec_PutOp.f k l0 a1_0 a1_1 a1_2 = some (r1, r2)) :
    Calls Tryz.prog 10 #[u9000_, .agg #[.int .i64 a1_0, .int .i64 a1_1, .int .i64 a1_2]] w fun e w' => ∃ v0_ : Value, e = .returned (.tuple #[v0_, .int .i64 r2]) ∧ Kd.R (Kd.int .u8) 5 w' w0.heap.size (fun k_ => (P0_ k_ ∨ w.heap.size ≤ k_)) v0_ r1 ∧ Below w0.heap.size w0 w' ∧ Kept w w' (fun k_ => P0_ k_) := by
  have hu38 := Tryz.underlying38
  have HO0 := Aside0.mk (show Kd.R (Kd.int .u8) 5 w w0.heap.size (fun k_ => (P0_ k_ ∨ w.heap.size ≤ k_)) u9000_ l0 from Kd.R_mono ho0 (fun k_ hk => (.inl hk)))
  have HK := Aside0.mk (Kept.refl w (fun k_ => P0_ k_))
  have HW0 := Aside0.mk hB.size
  have HB := Aside0.mk hB
  clear hB
  have H : ((objs_Fits.f a1_0 a1_1 a1_2).bind fun t393 => (if t393 = true then ((num_Put.f k l0 a1_0).bind fun t394 => ((num_PutSigned.f k t394 a1_1).bind fun t397 => ((num_PutSigned.f k t397 a1_2).bind fun t400 => (some (t400, 0))))) else (some (l0, 1)))) = some (r1, r2) := h
  clear h
  replace H := Option.bind_eq_some_iff.mp H
  obtain ⟨t393, A30, H⟩ := H
  replace H : (if t393 = true then ((num_Put.f k l0 a1_0).bind fun t394 => ((num_PutSigned.f k t394 a1_1).bind fun t397 => ((num_PutSigned.f k t397 a1_2).bind fun t400 => (some (t400, 0))))) else (some (l0, 1))) = some (r1, r2) := H
  have A3 := Aside0.mk A30
  clear A30
  by_cases c4 : t393 = true
  · subst c4
    have H1 : ((num_Put.f k l0 a1_0).bind fun t394 => ((num_PutSigned.f k t394 a1_1).bind fun t397 => ((num_PutSigned.f k t397 a1_2).bind fun t400 => (some (t400, 0))))) = some (r1, r2) := by rw [if_pos rfl] at H; exact H
    clear H
    have H := H1
    clear H1
    replace H := Option.bind_eq_some_iff.mp H
    obtain ⟨t394, A50, H⟩ := H
    replace H : ((num_PutSigned.f k t394 a1_1).bind fun t397 => ((num_PutSigned.f k t397 a1_2).bind fun t400 => (some (t400, 0)))) = some (r1, r2) := H
    have A5 := Aside0.mk A50
    clear A50
    replace H := Option.bind_eq_some_iff.mp H
    obtain ⟨t397, A60, H⟩ := H
    replace H : ((num_PutSigned.f k t397 a1_2).bind fun t400 => (some (t400, 0))) = some (r1, r2) := H
    have A6 := Aside0.mk A60
    clear A60
    replace H := Option.bind_eq_some_iff.mp H
    obtain ⟨t400, A70, H⟩ := H
    replace H : (some (t400, 0)) = some (r1, r2) := H
    have A7 := Aside0.mk A70
    clear A70
    simp only [Option.some.injEq, Prod.mk.injEq] at H
    obtain ⟨rfl, rfl⟩ := H
    go_enter Tryz.func10, Tryz.ntmps10
    have tok1_ : True := trivial
    try go_wp2_with (first | ((with_reducible refine gate_dst (N := 3) rfl ?_); refine box_event ?hg (N := 3) ?hd (cs := #[.int .i64 a1_0, .int .i64 a1_1, .int .i64 a1_2]) (t := 38) ?hr ?_; (case hd => rfl); (case hg => rfl); (case hr => first | (go_simp; done) | (go_simp; rfl)); intro gb392 hg w8 hbox hb; have n0_ := Aside0.mk (Kd.R_below (by (with_reducible repeat (first | apply Kd.R_alloc | apply Kd.R_drewN | apply Kd.R_drew)); exact HO0.out) hb); have n1_ := Aside0.mk (Kept.below (S := (fun k_ => P0_ k_)) (by repeat (first | (with_reducible first | exact HK.out | apply Kept.alloc | apply Kept.drewN | apply Kept.drew) | exact HK.out)) hb); have n2_ := Aside0.mk (below_step (by repeat (first | (with_reducible first | exact HB.out | apply below_alloc | apply pw_below_drewN | apply below_drew1) | exact HB.out)) hb); have n3_ := Aside0.mk (hbox); have n4_ := Aside0.mk ((by rw [hg]; exact (by first | exact HK.out.1 | exact (show Kept w _ (fun k_ => P0_ k_) from by repeat (first | (with_reducible first | exact HK.out | apply Kept.alloc | apply Kept.drewN | apply Kept.drew) | exact HK.out)).1) : w.heap.size ≤ gb392)); have n5_ := Aside0.mk ((by rw [hg]; exact (below_size (by repeat (first | (with_reducible first | exact HB.out | apply below_alloc | apply pw_below_drewN | apply below_drew1) | exact HB.out))) : w0.heap.size ≤ gb392)); clear HO0; clear HK; clear HB; have HO0 := n0_; have HK := n1_; have HB := n2_; have BK392 := n3_; have GW392 := n4_; have GE392 := n5_; clear n0_ n1_ n2_ n3_ n4_ n5_; clear hb hbox hg; have hcz9_0 : w8.cell? ⟨gb392, 0, none⟩ = some (.int .i64 a1_0) := (blk_cell BK392.out 0).trans rfl; have hcz9_1 : w8.cell? ⟨gb392, 1, none⟩ = some (.int .i64 a1_1) := (blk_cell BK392.out 1).trans rfl; have hcz9_2 : w8.cell? ⟨gb392, 2, none⟩ = some (.int .i64 a1_2) := (blk_cell BK392.out 2).trans rfl; have hfz9_0 := blk_frozen BK392.out 0; have hfz9_1 := blk_frozen BK392.out 1; have hfz9_2 := blk_frozen BK392.out 2) | ((with_reducible refine gate_callee (f := 25) rfl ?_); clear tok1_; refine goesL_ (some 7) rfl rfl Tryz.func25 (by kernel_rfl) rfl #[.agg #[.int .i64 a1_0, .int .i64 a1_1, .int .i64 a1_2]] rfl (by (try simp only [List.map_toArray, List.map_cons, List.map_nil]); first | done | rfl | (simp only [List.length_drop, List.length_take]; rfl)) ?_; (with_reducible refine (objs_Fits.calls a1_0 a1_1 a1_2 true _ A3.out).mono ?_); rintro e w10 ⟨rfl, hb⟩; refine ⟨_, rfl, ?_⟩; have n0_ := Aside0.mk (Kd.R_below (by (with_reducible repeat (first | apply Kd.R_alloc | apply Kd.R_drewN | apply Kd.R_drew)); exact HO0.out) hb); have n1_ := Aside0.mk (blk_below (g := gb392) (o := .cells #[.int .i64 a1_0, .int .i64 a1_1, .int .i64 a1_2] 38 (0, 0)) (by (with_reducible repeat (first | refine blk_drewN ?_ _ | refine blk_drew ?_ | refine blk_alloc ?_ _)); exact BK392.out) hb); have n2_ := Aside0.mk (Kept.below (S := (fun k_ => P0_ k_)) (by repeat (first | (with_reducible first | exact HK.out | apply Kept.alloc | apply Kept.drewN | apply Kept.drew | refine Kept.setCell ?_ (.inr GW392.out) _) | exact HK.out)) hb); have n3_ := Aside0.mk (below_step (by repeat (first | (with_reducible first | exact HB.out | apply below_alloc | apply pw_below_drewN | apply below_drew1 | refine below_set ?_ GE392.out) | exact HB.out)) hb); clear HO0; clear BK392; clear HK; clear HB; have HO0 := n0_; have BK392 := n1_; have HK := n2_; have HB := n3_; clear n0_ n1_ n2_ n3_; (try clear hb); (try clear hb2); (try clear hk); (try clear hi)))
    have n0_ := Aside0.mk (Kd.R_drew HO0.out)
    have n1_ := Aside0.mk (blk_drew BK392.out)
    have n2_ := Aside0.mk (Kept.drew HK.out)
    have n3_ := Aside0.mk (below_drew1 HB.out)
    try clear HO0
    clear BK392
    clear HK
    clear HB
    have HO0 := n0_
    have BK392 := n1_
    have HK := n2_
    have HB := n3_
    clear n0_ n1_ n2_ n3_
    obtain ⟨Ao12, co12, eo12⟩ := Kd.R_slice HO0.out
    (first | subst eo12 | (injection eo12 with f1_ f2_ f3_; have f4_ := f1_.symm; have f5_ := f3_.symm; clear f1_ f2_ f3_; subst f4_; subst f5_))
    refine start_ (n := 12) (S := fun w' => w'.cell? ⟨gb392, 0, none⟩ = some (.int .i64 a1_0) ∧ w'.cell? ⟨gb392, 1, none⟩ = some (.int .i64 a1_1) ∧ w'.cell? ⟨gb392, 2, none⟩ = some (.int .i64 a1_2)) (ds := []) #[false, false, false, false, false, false, false, false, false, false, false, false] (by kernel_rfl) rfl rfl ⟨(blk_cell BK392.out 0).trans rfl, (blk_cell BK392.out 1).trans rfl, (blk_cell BK392.out 2).trans rfl⟩ (fun hHeld => ?_); refine with_tabW codec_PutOp.tab3 codec_PutOp.bits3 (fun HT_ HW_ => ?_)
    generalize w10.drew = w11 at HO0 BK392 HK HB hHeld ⊢
    refine pure_ (i := 0) (N := some 10) (v := ?_) (a' := ?_) #[true, false, false, false, false, false, false, false, false, false, false, false] rfl rfl (any_of HT_.out (by kernel_rfl)) (fun _ _ _ h => h) (Or.inl ⟨by rfl, ?_⟩) ?_ ?_
    rotate_left
    · intro w'
      go_simp
      with_reducible rfl
    rotate_left
    · simp only [Act.put, List.setIfInBounds_toArray, List.set_cons_zero, List.set_cons_succ, i64_w, i32_w]
      rfl
    refine pure_ (i := 1) (N := some 11) (v := ?_) (a' := ?_) #[true, true, false, false, false, false, false, false, false, false, false, false] rfl rfl (any_of HT_.out (by kernel_rfl)) (fun _ _ _ h => h) (Or.inl ⟨by rfl, ?_⟩) ?_ ?_
    rotate_left
    · intro w'
      go_simp
      with_reducible rfl
    rotate_left
    · simp only [Act.put, List.setIfInBounds_toArray, List.set_cons_zero, List.set_cons_succ, i64_w, i32_w]
      rfl
    refine pure_ (i := 4) (N := some 14) (v := ?_) (a' := ?_) #[true, true, false, false, true, false, false, false, false, false, false, false] rfl rfl (any_of HT_.out (by kernel_rfl)) (fun _ _ _ h => h) (Or.inl ⟨by rfl, ?_⟩) ?_ ?_
    rotate_left
    · intro w'
      go_simp
      with_reducible rfl
    rotate_left
    · simp only [Act.put, List.setIfInBounds_toArray, List.set_cons_zero, List.set_cons_succ, i64_w, i32_w]
      rfl
    refine pure_ (i := 7) (N := some 17) (v := ?_) (a' := ?_) #[true, true, false, false, true, false, false, true, false, false, false, false] rfl rfl (any_of HT_.out (by kernel_rfl)) (fun _ _ _ h => h) (Or.inl ⟨by rfl, ?_⟩) ?_ ?_
    rotate_left
    · intro w'
      go_simp
      with_reducible rfl
    rotate_left
    · simp only [Act.put, List.setIfInBounds_toArray, List.set_cons_zero, List.set_cons_succ, i64_w, i32_w]
      rfl
    refine take_ (i := 2) (N := some 12) (v := ?_) (a' := ?_) #[true, true, true, false, true, false, false, true, false, false, false, false] rfl rfl (take_ofW HT_.out HW_.out (by kernel_rfl)) (fun _ _ _ h => h) (Or.inl ⟨by rfl, ?_⟩) hHeld ?_ ?_
    rotate_left
    · rintro w' ⟨s0, s1, s2⟩
      go_simp
      with_reducible rfl
    rotate_left
    · simp only [Act.put, List.setIfInBounds_toArray, List.set_cons_zero, List.set_cons_succ, i64_w, i32_w]
      rfl
    refine take_ (i := 5) (N := some 15) (v := ?_) (a' := ?_) #[true, true, true, false, true, true, false, true, false, false, false, false] rfl rfl (take_ofW HT_.out HW_.out (by kernel_rfl)) (fun _ _ _ h => h) (Or.inl ⟨by rfl, ?_⟩) hHeld ?_ ?_
    rotate_left
    · rintro w' ⟨s0, s1, s2⟩
      go_simp
      with_reducible rfl
    rotate_left
    · simp only [Act.put, List.setIfInBounds_toArray, List.set_cons_zero, List.set_cons_succ, i64_w, i32_w]
      rfl
    refine take_ (i := 8) (N := some 18) (v := ?_) (a' := ?_) #[true, true, true, false, true, true, false, true, true, false, false, false] rfl rfl (take_ofW HT_.out HW_.out (by kernel_rfl)) (fun _ _ _ h => h) (Or.inl ⟨by rfl, ?_⟩) hHeld ?_ ?_
    rotate_left
    · rintro w' ⟨s0, s1, s2⟩
      go_simp
      with_reducible rfl
    rotate_left
    · simp only [Act.put, List.setIfInBounds_toArray, List.set_cons_zero, List.set_cons_succ, i64_w, i32_w]
      rfl
    refine one_ (i := 3) (N := some 13) #[true, true, true, true, true, true, false, true, true, false, false, false] rfl rfl (one_of HT_.out (by kernel_rfl)) (by decide) (fun K hK => ?_)
    refine goes_ Tryz.func22 (by kernel_rfl) rfl #[.slice Ao12 l0.length co12, .int .i64 a1_0] (by rfl) rfl rfl (by (try simp only [List.map_toArray, List.map_cons, List.map_nil]); first | done | rfl | (simp only [List.length_drop, List.length_take]; rfl)) ?_
    with_reducible refine (num_Put.calls k (fun k_ => some k_ = (.slice Ao12 l0.length co12 : Value).ownBlock) (.slice Ao12 l0.length co12) l0 a1_0 t394 w0 _ ?side1 ?side2 A5.out).mono ?_
    (case side1 => repeat (first | (with_reducible first | exact HB.out | apply below_alloc | apply pw_below_drewN | apply below_drew1 | refine below_set ?_ GE392.out) | exact HB.out))
    (case side2 => exact Kd.R_tight rfl HO0.out)
    rintro e w13 ⟨v395, rfl, ho0, hb, hkp⟩
    refine ⟨_, rfl, ?_⟩
    have n0_ := Aside0.mk (blk_kept (by (with_reducible repeat (first | refine blk_drewN ?_ _ | refine blk_drew ?_ | refine blk_alloc ?_ _)); exact BK392.out) hkp (fun hs_ => (fun e_ => (Kd.R_ne HO0.out BK392.out (by decide)) e_) hs_))
    have n1_ := Aside0.mk (Kd.R_mono (ok' := fun k_ => (P0_ k_ ∨ w.heap.size ≤ k_)) ho0 (fun k_ hk_ => Or.elim hk_ (fun hs_ => (HO0.out.1 k_ (hs_).symm)) (fun hn_ => (.inr (Nat.le_trans (by first | exact HK.out.1 | exact (show Kept w _ (fun k_ => P0_ k_) from by repeat (first | (with_reducible first | exact HK.out | apply Kept.alloc | apply Kept.drewN | apply Kept.drew | refine Kept.setCell ?_ (.inr GW392.out) _) | exact HK.out)).1) hn_)))))
    have n2_ := Aside0.mk (Kept.then_ (S := (fun k_ => P0_ k_)) (by repeat (first | (with_reducible first | exact HK.out | apply Kept.alloc | apply Kept.drewN | apply Kept.drew | refine Kept.setCell ?_ (.inr GW392.out) _) | exact HK.out)) hkp (fun k_ hs_ => (fun e_ => (HO0.out.1 k_ e_.symm)) hs_))
    have n3_ := Aside0.mk (hb)
    clear BK392
    clear HK
    clear HB
    try clear HO0
    have BK392 := n0_
    have HO396 := n1_
    have HK := n2_
    have HB := n3_
    clear n0_ n1_ n2_ n3_
    (try clear hb)
    (try clear hkp)
    (try clear ho0)
    obtain ⟨Ao14, co14, eo14⟩ := Kd.R_slice HO396.out
    (first | subst eo14 | (injection eo14 with f1_ f2_ f3_; have f4_ := f1_.symm; have f5_ := f3_.symm; clear f1_ f2_ f3_; subst f4_; subst f5_))
    refine hK.out _ _ ⟨(blk_cell BK392.out 0).trans rfl, (blk_cell BK392.out 1).trans rfl, (blk_cell BK392.out 2).trans rfl⟩ (fun hHeld => ?_)
    clear hK K
    refine norm_ (a' := ?_) ?_ ?_
    rotate_left
    · show Act.put _ (some 13) _ = _
      simp only [Act.put, List.setIfInBounds_toArray, List.set_cons_zero, List.set_cons_succ, i64_w, i32_w]
      rfl
    refine one_ (i := 6) (N := some 16) #[true, true, true, true, true, true, true, true, true, false, false, false] rfl rfl (one_of HT_.out (by kernel_rfl)) (by decide) (fun K hK => ?_)
    refine goes_ Tryz.func24 (by kernel_rfl) rfl #[.slice Ao14 t394.length co14, .int .i64 a1_1] (by rfl) rfl rfl (by (try simp only [List.map_toArray, List.map_cons, List.map_nil]); first | done | rfl | (simp only [List.length_drop, List.length_take]; rfl)) ?_
    with_reducible refine (num_PutSigned.calls k (fun k_ => some k_ = (.slice Ao14 t394.length co14 : Value).ownBlock) (.slice Ao14 t394.length co14) t394 a1_1 t397 w0 _ ?side1 ?side2 A6.out).mono ?_
    (case side1 => repeat (first | (with_reducible first | exact HB.out | apply below_alloc | apply pw_below_drewN | apply below_drew1 | refine below_set ?_ GE392.out) | exact HB.out))
    (case side2 => exact Kd.R_tight rfl HO396.out)
    rintro e w15 ⟨v398, rfl, ho0, hb, hkp⟩
    refine ⟨_, rfl, ?_⟩
    have n0_ := Aside0.mk (blk_kept (by (with_reducible repeat (first | refine blk_drewN ?_ _ | refine blk_drew ?_ | refine blk_alloc ?_ _)); exact BK392.out) hkp (fun hs_ => (fun e_ => (Kd.R_ne HO396.out BK392.out (by decide)) e_) hs_))
    have n1_ := Aside0.mk (Kd.R_mono (ok' := fun k_ => (P0_ k_ ∨ w.heap.size ≤ k_)) ho0 (fun k_ hk_ => Or.elim hk_ (fun hs_ => (HO396.out.1 k_ (hs_).symm)) (fun hn_ => (.inr (Nat.le_trans (by first | exact HK.out.1 | exact (show Kept w _ (fun k_ => P0_ k_) from by repeat (first | (with_reducible first | exact HK.out | apply Kept.alloc | apply Kept.drewN | apply Kept.drew | refine Kept.setCell ?_ (.inr GW392.out) _) | exact HK.out)).1) hn_)))))
    have n2_ := Aside0.mk (Kept.then_ (S := (fun k_ => P0_ k_)) (by repeat (first | (with_reducible first | exact HK.out | apply Kept.alloc | apply Kept.drewN | apply Kept.drew | refine Kept.setCell ?_ (.inr GW392.out) _) | exact HK.out)) hkp (fun k_ hs_ => (fun e_ => (HO396.out.1 k_ e_.symm)) hs_))
    have n3_ := Aside0.mk (hb)
    clear BK392
    clear HK
    clear HB
    try clear HO396
    have BK392 := n0_
    have HO399 := n1_
    have HK := n2_
    have HB := n3_
    clear n0_ n1_ n2_ n3_
    (try clear hb)
    (try clear hkp)
    (try clear ho0)
    obtain ⟨Ao16, co16, eo16⟩ := Kd.R_slice HO399.out
    (first | subst eo16 | (injection eo16 with f1_ f2_ f3_; have f4_ := f1_.symm; have f5_ := f3_.symm; clear f1_ f2_ f3_; subst f4_; subst f5_))
    refine hK.out _ _ ⟨(blk_cell BK392.out 0).trans rfl, (blk_cell BK392.out 1).trans rfl, (blk_cell BK392.out 2).trans rfl⟩ (fun hHeld => ?_)
    clear hK K
    refine norm_ (a' := ?_) ?_ ?_
    rotate_left
    · show Act.put _ (some 16) _ = _
      simp only [Act.put, List.setIfInBounds_toArray, List.set_cons_zero, List.set_cons_succ, i64_w, i32_w]
      rfl
    refine one_ (i := 9) (N := some 19) #[true, true, true, true, true, true, true, true, true, true, false, false] rfl rfl (one_of HT_.out (by kernel_rfl)) (by decide) (fun K hK => ?_)
    refine goes_ Tryz.func24 (by kernel_rfl) rfl #[.slice Ao16 t397.length co16, .int .i64 a1_2] (by rfl) rfl rfl (by (try simp only [List.map_toArray, List.map_cons, List.map_nil]); first | done | rfl | (simp only [List.length_drop, List.length_take]; rfl)) ?_
    with_reducible refine (num_PutSigned.calls k (fun k_ => some k_ = (.slice Ao16 t397.length co16 : Value).ownBlock) (.slice Ao16 t397.length co16) t397 a1_2 t400 w0 _ ?side1 ?side2 A7.out).mono ?_
    (case side1 => repeat (first | (with_reducible first | exact HB.out | apply below_alloc | apply pw_below_drewN | apply below_drew1 | refine below_set ?_ GE392.out) | exact HB.out))
    (case side2 => exact Kd.R_tight rfl HO399.out)
    rintro e w17 ⟨v401, rfl, ho0, hb, hkp⟩
    refine ⟨_, rfl, ?_⟩
    have n0_ := Aside0.mk (blk_kept (by (with_reducible repeat (first | refine blk_drewN ?_ _ | refine blk_drew ?_ | refine blk_alloc ?_ _)); exact BK392.out) hkp (fun hs_ => (fun e_ => (Kd.R_ne HO399.out BK392.out (by decide)) e_) hs_))
    have n1_ := Aside0.mk (Kd.R_mono (ok' := fun k_ => (P0_ k_ ∨ w.heap.size ≤ k_)) ho0 (fun k_ hk_ => Or.elim hk_ (fun hs_ => (HO399.out.1 k_ (hs_).symm)) (fun hn_ => (.inr (Nat.le_trans (by first | exact HK.out.1 | exact (show Kept w _ (fun k_ => P0_ k_) from by repeat (first | (with_reducible first | exact HK.out | apply Kept.alloc | apply Kept.drewN | apply Kept.drew | refine Kept.setCell ?_ (.inr GW392.out) _) | exact HK.out)).1) hn_)))))
    have n2_ := Aside0.mk (Kept.then_ (S := (fun k_ => P0_ k_)) (by repeat (first | (with_reducible first | exact HK.out | apply Kept.alloc | apply Kept.drewN | apply Kept.drew | refine Kept.setCell ?_ (.inr GW392.out) _) | exact HK.out)) hkp (fun k_ hs_ => (fun e_ => (HO399.out.1 k_ e_.symm)) hs_))
    have n3_ := Aside0.mk (hb)
    clear BK392
    clear HK
    clear HB
    try clear HO399
    have BK392 := n0_
    have HO402 := n1_
    have HK := n2_
    have HB := n3_
    clear n0_ n1_ n2_ n3_
    (try clear hb)
    (try clear hkp)
    (try clear ho0)
    refine hK.out _ _ ⟨(blk_cell BK392.out 0).trans rfl, (blk_cell BK392.out 1).trans rfl, (blk_cell BK392.out 2).trans rfl⟩ (fun hHeld => ?_)
    clear hK K
    refine norm_ (a' := ?_) ?_ ?_
    rotate_left
    · show Act.put _ (some 19) _ = _
      simp only [Act.put, List.setIfInBounds_toArray, List.set_cons_zero, List.set_cons_succ, i64_w, i32_w]
      rfl
    refine pure_ (i := 10) (N := some 4) (v := ?_) (a' := ?_) #[true, true, true, true, true, true, true, true, true, true, true, false] rfl rfl (any_of HT_.out (by kernel_rfl)) (fun _ _ _ h => h) (Or.inl ⟨by rfl, ?_⟩) ?_ ?_
    rotate_left
    · intro w'
      go_simp
      with_reducible rfl
    rotate_left
    · simp only [Act.put, List.setIfInBounds_toArray, List.set_cons_zero, List.set_cons_succ, i64_w, i32_w]
      rfl
    refine pure_ (i := 11) (N := some 5) (v := ?_) (a' := ?_) #[true, true, true, true, true, true, true, true, true, true, true, true] rfl rfl (any_of HT_.out (by kernel_rfl)) (fun _ _ _ h => h) (Or.inl ⟨by rfl, ?_⟩) ?_ ?_
    rotate_left
    · intro w'
      go_simp
      with_reducible rfl
    rotate_left
    · simp only [Act.put, List.setIfInBounds_toArray, List.set_cons_zero, List.set_cons_succ, i64_w, i32_w]
      rfl
    refine done_ (done_of HT_.out (by kernel_rfl)) ?_
    try go_wp2
    go_ret2
    exact ⟨_, by first | rfl | (simp [errW_none, errW_some] <;> rfl) | (simp [*, errW_none, errW_some] <;> rfl), by (with_reducible repeat (first | apply Kd.R_alloc | apply Kd.R_drewN | apply Kd.R_drew)); exact HO402.out, by repeat (first | (with_reducible first | exact HB.out | apply below_alloc | apply pw_below_drewN | apply below_drew1 | refine below_set ?_ GE392.out) | exact HB.out), by repeat (first | (with_reducible first | exact HK.out | apply Kept.alloc | apply Kept.drewN | apply Kept.drew | refine Kept.setCell ?_ (.inr GW392.out) _) | exact HK.out)⟩
  · replace c4 := Bool.eq_false_iff.mpr c4
    subst c4
    have H1 : (some (l0, 1)) = some (r1, r2) := by rw [if_neg (show ¬ (false = true) by decide)] at H; exact H
    clear H
    have H := H1
    clear H1
    simp only [Option.some.injEq, Prod.mk.injEq] at H
    obtain ⟨rfl, rfl⟩ := H
    go_enter Tryz.func10, Tryz.ntmps10
    have tok2_ : True := trivial
    go_wp2_with (first | ((with_reducible refine gate_dst (N := 3) rfl ?_); refine box_event ?hg (N := 3) ?hd (cs := #[.int .i64 a1_0, .int .i64 a1_1, .int .i64 a1_2]) (t := 38) ?hr ?_; (case hd => rfl); (case hg => rfl); (case hr => first | (go_simp; done) | (go_simp; rfl)); intro gb392 hg w18 hbox hb; have n0_ := Aside0.mk (Kd.R_below (by (with_reducible repeat (first | apply Kd.R_alloc | apply Kd.R_drewN | apply Kd.R_drew)); exact HO0.out) hb); have n1_ := Aside0.mk (Kept.below (S := (fun k_ => P0_ k_)) (by repeat (first | (with_reducible first | exact HK.out | apply Kept.alloc | apply Kept.drewN | apply Kept.drew) | exact HK.out)) hb); have n2_ := Aside0.mk (below_step (by repeat (first | (with_reducible first | exact HB.out | apply below_alloc | apply pw_below_drewN | apply below_drew1) | exact HB.out)) hb); have n3_ := Aside0.mk (hbox); have n4_ := Aside0.mk ((by rw [hg]; exact (by first | exact HK.out.1 | exact (show Kept w _ (fun k_ => P0_ k_) from by repeat (first | (with_reducible first | exact HK.out | apply Kept.alloc | apply Kept.drewN | apply Kept.drew) | exact HK.out)).1) : w.heap.size ≤ gb392)); have n5_ := Aside0.mk ((by rw [hg]; exact (below_size (by repeat (first | (with_reducible first | exact HB.out | apply below_alloc | apply pw_below_drewN | apply below_drew1) | exact HB.out))) : w0.heap.size ≤ gb392)); clear HO0; clear HK; clear HB; have HO0 := n0_; have HK := n1_; have HB := n2_; have BK392 := n3_; have GW392 := n4_; have GE392 := n5_; clear n0_ n1_ n2_ n3_ n4_ n5_; clear hb hbox hg; have hcz19_0 : w18.cell? ⟨gb392, 0, none⟩ = some (.int .i64 a1_0) := (blk_cell BK392.out 0).trans rfl; have hcz19_1 : w18.cell? ⟨gb392, 1, none⟩ = some (.int .i64 a1_1) := (blk_cell BK392.out 1).trans rfl; have hcz19_2 : w18.cell? ⟨gb392, 2, none⟩ = some (.int .i64 a1_2) := (blk_cell BK392.out 2).trans rfl; have hfz19_0 := blk_frozen BK392.out 0; have hfz19_1 := blk_frozen BK392.out 1; have hfz19_2 := blk_frozen BK392.out 2) | ((with_reducible refine gate_callee (f := 25) rfl ?_); clear tok2_; refine goesL_ (some 7) rfl rfl Tryz.func25 (by kernel_rfl) rfl #[.agg #[.int .i64 a1_0, .int .i64 a1_1, .int .i64 a1_2]] rfl (by (try simp only [List.map_toArray, List.map_cons, List.map_nil]); first | done | rfl | (simp only [List.length_drop, List.length_take]; rfl)) ?_; (with_reducible refine (objs_Fits.calls a1_0 a1_1 a1_2 false _ A3.out).mono ?_); rintro e w20 ⟨rfl, hb⟩; refine ⟨_, rfl, ?_⟩; have n0_ := Aside0.mk (Kd.R_below (by (with_reducible repeat (first | apply Kd.R_alloc | apply Kd.R_drewN | apply Kd.R_drew)); exact HO0.out) hb); have n1_ := Aside0.mk (blk_below (g := gb392) (o := .cells #[.int .i64 a1_0, .int .i64 a1_1, .int .i64 a1_2] 38 (0, 0)) (by (with_reducible repeat (first | refine blk_drewN ?_ _ | refine blk_drew ?_ | refine blk_alloc ?_ _)); exact BK392.out) hb); have n2_ := Aside0.mk (Kept.below (S := (fun k_ => P0_ k_)) (by repeat (first | (with_reducible first | exact HK.out | apply Kept.alloc | apply Kept.drewN | apply Kept.drew | refine Kept.setCell ?_ (.inr GW392.out) _) | exact HK.out)) hb); have n3_ := Aside0.mk (below_step (by repeat (first | (with_reducible first | exact HB.out | apply below_alloc | apply pw_below_drewN | apply below_drew1 | refine below_set ?_ GE392.out) | exact HB.out)) hb); clear HO0; clear BK392; clear HK; clear HB; have HO0 := n0_; have BK392 := n1_; have HK := n2_; have HB := n3_; clear n0_ n1_ n2_ n3_; (try clear hb); (try clear hb2); (try clear hk); (try clear hi)))
    go_ret2
    exact ⟨_, by first | rfl | (simp [errW_none, errW_some] <;> rfl) | (simp [*, errW_none, errW_some] <;> rfl), by (with_reducible repeat (first | apply Kd.R_alloc | apply Kd.R_drewN | apply Kd.R_drew)); exact HO0.out, by repeat (first | (with_reducible first | exact HB.out | apply below_alloc | apply pw_below_drewN | apply below_drew1 | refine below_set ?_ GE392.out) | exact HB.out), by repeat (first | (with_reducible first | exact HK.out | apply Kept.alloc | apply Kept.drewN | apply Kept.drew | refine Kept.setCell ?_ (.inr GW392.out) _) | exact HK.out)⟩
/-! ### schema_Fits: function 43 -/
def schema_Fits.f (a0_0 : Int) (a0_1 : Int) (a0_2 : Int) (a0_3 : Int) (a0_4 : Int) (a0_5 : Int) (a0_6 : Int) : Option (Bool) := if a0_0 ≥ 0 then (if a0_0 < 4611686018427387904 then (if a0_1 ≥ 0 then (if a0_1 ≤ 64 then (if a0_2 ≥ 0 then (if a0_2 < 4611686018427387904 then ((objs_Fits.f a0_3 a0_4 a0_5).bind fun t404 => (if t404 = true then (if a0_6 ≥ (-1125899906842624) then (some (decide (a0_6 ≤ 1125899906842624))) else (some false)) else (some false))) else (some false)) else (some false)) else (some false)) else (some false)) else (some false)) else (some false)
set_option maxHeartbeats 8000000 in
set_option maxRecDepth 100000 in
theorem schema_Fits.calls (a0_0 : Int) (a0_1 : Int) (a0_2 : Int) (a0_3 : Int) (a0_4 : Int) (a0_5 : Int) (a0_6 : Int) (r : Bool) (w : World) (h : schema_Fits.f a0_0 a0_1 a0_2 a0_3 a0_4 a0_5 a0_6 = some r) :
    Calls Tryz.prog 43 #[.agg #[.int .i64 a0_0, .int .i64 a0_1, .int .i64 a0_2, .int .i64 a0_3, .int .i64 a0_4, .int .i64 a0_5, .int .i64 a0_6]] w fun e w' => e = .returned (.bool r) ∧ Below w.heap.size w w' := by
  have hu62 := Tryz.underlying62
  have hu38 := Tryz.underlying38
  have HB := Aside0.mk (Below.refl w.heap.size w)
  have H : (if a0_0 ≥ 0 then (if a0_0 < 4611686018427387904 then (if a0_1 ≥ 0 then (if a0_1 ≤ 64 then (if a0_2 ≥ 0 then (if a0_2 < 4611686018427387904 then ((objs_Fits.f a0_3 a0_4 a0_5).bind fun t404 => (if t404 = true then (if a0_6 ≥ (-1125899906842624) then (some (decide (a0_6 ≤ 1125899906842624))) else (some false)) else (some false))) else (some false)) else (some false)) else (some false)) else (some false)) else (some false)) else (some false)) = some r := h
  clear h
  by_cases c2 : a0_0 ≥ 0
  · rw [if_pos c2] at H
    have c2b0 : decide (0 ≤ a0_0) = true := decide_eq_true c2
    clear c2
    by_cases c3 : a0_0 < 4611686018427387904
    · rw [if_pos c3] at H
      have c3b0 : decide (a0_0 < 4611686018427387904) = true := decide_eq_true c3
      clear c3
      by_cases c4 : a0_1 ≥ 0
      · rw [if_pos c4] at H
        have c4b0 : decide (0 ≤ a0_1) = true := decide_eq_true c4
        clear c4
        by_cases c5 : a0_1 ≤ 64
        · rw [if_pos c5] at H
          have c5b0 : decide (a0_1 ≤ 64) = true := decide_eq_true c5
          clear c5
          by_cases c6 : a0_2 ≥ 0
          · rw [if_pos c6] at H
            have c6b0 : decide (0 ≤ a0_2) = true := decide_eq_true c6
            clear c6
            by_cases c7 : a0_2 < 4611686018427387904
            · rw [if_pos c7] at H
              have c7b0 : decide (a0_2 < 4611686018427387904) = true := decide_eq_true c7
              clear c7
              replace H := Option.bind_eq_some_iff.mp H
              obtain ⟨t404, A80, H⟩ := H
              replace H : (if t404 = true then (if a0_6 ≥ (-1125899906842624) then (some (decide (a0_6 ≤ 1125899906842624))) else (some false)) else (some false)) = some r := H
              have A8 := Aside0.mk A80
              clear A80
              by_cases c9 : t404 = true
              · subst c9
                have H1 : (if a0_6 ≥ (-1125899906842624) then (some (decide (a0_6 ≤ 1125899906842624))) else (some false)) = some r := by rw [if_pos rfl] at H; exact H
                clear H
                have H := H1
                clear H1
                by_cases c10 : a0_6 ≥ (-1125899906842624)
                · rw [if_pos c10] at H
                  have c10b0 : decide ((-1125899906842624) ≤ a0_6) = true := decide_eq_true c10
                  clear c10
                  obtain rfl := Option.some.inj H
                  go_enter Tryz.func43, Tryz.ntmps43
                  have tok3_ : True := trivial
                  go_wp2_with (first | ((with_reducible refine gate_dst (N := 1) rfl ?_); refine box_event ?hg (N := 1) ?hd (cs := #[.int .i64 a0_0, .int .i64 a0_1, .int .i64 a0_2, .int .i64 a0_3, .int .i64 a0_4, .int .i64 a0_5, .int .i64 a0_6]) (t := 62) ?hr ?_; (case hd => rfl); (case hg => rfl); (case hr => first | (go_simp; done) | (go_simp; rfl)); intro gb403 hg w11 hbox hb; have n0_ := Aside0.mk (below_step (by repeat (first | (with_reducible first | exact HB.out | apply below_alloc | apply pw_below_drewN | apply below_drew1) | exact HB.out)) hb); have n1_ := Aside0.mk (hbox); have n2_ := Aside0.mk ((by rw [hg]; exact (below_size (by repeat (first | (with_reducible first | exact HB.out | apply below_alloc | apply pw_below_drewN | apply below_drew1) | exact HB.out))) : w.heap.size ≤ gb403)); have n3_ := Aside0.mk ((by rw [hg]; exact (below_size (by repeat (first | (with_reducible first | exact HB.out | apply below_alloc | apply pw_below_drewN | apply below_drew1) | exact HB.out))) : w.heap.size ≤ gb403)); clear HB; have HB := n0_; have BK403 := n1_; have GW403 := n2_; have GE403 := n3_; clear n0_ n1_ n2_ n3_; clear hb hbox hg; have hcz12_0 : w11.cell? ⟨gb403, 0, none⟩ = some (.int .i64 a0_0) := (blk_cell BK403.out 0).trans rfl; have hcz12_1 : w11.cell? ⟨gb403, 1, none⟩ = some (.int .i64 a0_1) := (blk_cell BK403.out 1).trans rfl; have hcz12_2 : w11.cell? ⟨gb403, 2, none⟩ = some (.int .i64 a0_2) := (blk_cell BK403.out 2).trans rfl; have hcz12_3 : w11.cell? ⟨gb403, 3, none⟩ = some (.int .i64 a0_3) := (blk_cell BK403.out 3).trans rfl; have hcz12_4 : w11.cell? ⟨gb403, 4, none⟩ = some (.int .i64 a0_4) := (blk_cell BK403.out 4).trans rfl; have hcz12_5 : w11.cell? ⟨gb403, 5, none⟩ = some (.int .i64 a0_5) := (blk_cell BK403.out 5).trans rfl; have hcz12_6 : w11.cell? ⟨gb403, 6, none⟩ = some (.int .i64 a0_6) := (blk_cell BK403.out 6).trans rfl; have hfz12_0 := blk_frozen BK403.out 0; have hfz12_1 := blk_frozen BK403.out 1; have hfz12_2 := blk_frozen BK403.out 2; have hfz12_3 := blk_frozen BK403.out 3; have hfz12_4 := blk_frozen BK403.out 4; have hfz12_5 := blk_frozen BK403.out 5; have hfz12_6 := blk_frozen BK403.out 6) | (go_at_call 25; clear tok3_; (with_reducible refine (objs_Fits.calls a0_3 a0_4 a0_5 true _ A8.out).mono ?_); rintro e w13 ⟨rfl, hb⟩; have n0_ := Aside0.mk (blk_below (g := gb403) (o := .cells #[.int .i64 a0_0, .int .i64 a0_1, .int .i64 a0_2, .int .i64 a0_3, .int .i64 a0_4, .int .i64 a0_5, .int .i64 a0_6] 62 (0, 0)) (by (with_reducible repeat (first | refine blk_drewN ?_ _ | refine blk_drew ?_ | refine blk_alloc ?_ _)); exact BK403.out) hb); have n1_ := Aside0.mk (below_step (by repeat (first | (with_reducible first | exact HB.out | apply below_alloc | apply pw_below_drewN | apply below_drew1 | refine below_set ?_ GE403.out) | exact HB.out)) hb); clear BK403; clear HB; have BK403 := n0_; have HB := n1_; clear n0_ n1_; (try clear hb); (try clear hb2); (try clear hk); (try clear hi); have hcz14_0 : w13.cell? ⟨gb403, 0, none⟩ = some (.int .i64 a0_0) := (blk_cell BK403.out 0).trans rfl; have hcz14_1 : w13.cell? ⟨gb403, 1, none⟩ = some (.int .i64 a0_1) := (blk_cell BK403.out 1).trans rfl; have hcz14_2 : w13.cell? ⟨gb403, 2, none⟩ = some (.int .i64 a0_2) := (blk_cell BK403.out 2).trans rfl; have hcz14_3 : w13.cell? ⟨gb403, 3, none⟩ = some (.int .i64 a0_3) := (blk_cell BK403.out 3).trans rfl; have hcz14_4 : w13.cell? ⟨gb403, 4, none⟩ = some (.int .i64 a0_4) := (blk_cell BK403.out 4).trans rfl; have hcz14_5 : w13.cell? ⟨gb403, 5, none⟩ = some (.int .i64 a0_5) := (blk_cell BK403.out 5).trans rfl; have hcz14_6 : w13.cell? ⟨gb403, 6, none⟩ = some (.int .i64 a0_6) := (blk_cell BK403.out 6).trans rfl; have hfz14_0 := blk_frozen BK403.out 0; have hfz14_1 := blk_frozen BK403.out 1; have hfz14_2 := blk_frozen BK403.out 2; have hfz14_3 := blk_frozen BK403.out 3; have hfz14_4 := blk_frozen BK403.out 4; have hfz14_5 := blk_frozen BK403.out 5; have hfz14_6 := blk_frozen BK403.out 6))
                  go_ret
                  exact ⟨by first | rfl | (simp [errW_none, errW_some] <;> rfl) | (simp [*, errW_none, errW_some] <;> rfl), by repeat (first | (with_reducible first | exact HB.out | apply below_alloc | apply pw_below_drewN | apply below_drew1 | refine below_set ?_ GE403.out) | exact HB.out)⟩
                · rw [if_neg c10] at H
                  have c10b0 : decide ((-1125899906842624) ≤ a0_6) = false := decide_eq_false c10
                  clear c10
                  obtain rfl := Option.some.inj H
                  go_enter Tryz.func43, Tryz.ntmps43
                  have tok4_ : True := trivial
                  go_wp2_with (first | ((with_reducible refine gate_dst (N := 1) rfl ?_); refine box_event ?hg (N := 1) ?hd (cs := #[.int .i64 a0_0, .int .i64 a0_1, .int .i64 a0_2, .int .i64 a0_3, .int .i64 a0_4, .int .i64 a0_5, .int .i64 a0_6]) (t := 62) ?hr ?_; (case hd => rfl); (case hg => rfl); (case hr => first | (go_simp; done) | (go_simp; rfl)); intro gb403 hg w15 hbox hb; have n0_ := Aside0.mk (below_step (by repeat (first | (with_reducible first | exact HB.out | apply below_alloc | apply pw_below_drewN | apply below_drew1) | exact HB.out)) hb); have n1_ := Aside0.mk (hbox); have n2_ := Aside0.mk ((by rw [hg]; exact (below_size (by repeat (first | (with_reducible first | exact HB.out | apply below_alloc | apply pw_below_drewN | apply below_drew1) | exact HB.out))) : w.heap.size ≤ gb403)); have n3_ := Aside0.mk ((by rw [hg]; exact (below_size (by repeat (first | (with_reducible first | exact HB.out | apply below_alloc | apply pw_below_drewN | apply below_drew1) | exact HB.out))) : w.heap.size ≤ gb403)); clear HB; have HB := n0_; have BK403 := n1_; have GW403 := n2_; have GE403 := n3_; clear n0_ n1_ n2_ n3_; clear hb hbox hg; have hcz16_0 : w15.cell? ⟨gb403, 0, none⟩ = some (.int .i64 a0_0) := (blk_cell BK403.out 0).trans rfl; have hcz16_1 : w15.cell? ⟨gb403, 1, none⟩ = some (.int .i64 a0_1) := (blk_cell BK403.out 1).trans rfl; have hcz16_2 : w15.cell? ⟨gb403, 2, none⟩ = some (.int .i64 a0_2) := (blk_cell BK403.out 2).trans rfl; have hcz16_3 : w15.cell? ⟨gb403, 3, none⟩ = some (.int .i64 a0_3) := (blk_cell BK403.out 3).trans rfl; have hcz16_4 : w15.cell? ⟨gb403, 4, none⟩ = some (.int .i64 a0_4) := (blk_cell BK403.out 4).trans rfl; have hcz16_5 : w15.cell? ⟨gb403, 5, none⟩ = some (.int .i64 a0_5) := (blk_cell BK403.out 5).trans rfl; have hcz16_6 : w15.cell? ⟨gb403, 6, none⟩ = some (.int .i64 a0_6) := (blk_cell BK403.out 6).trans rfl; have hfz16_0 := blk_frozen BK403.out 0; have hfz16_1 := blk_frozen BK403.out 1; have hfz16_2 := blk_frozen BK403.out 2; have hfz16_3 := blk_frozen BK403.out 3; have hfz16_4 := blk_frozen BK403.out 4; have hfz16_5 := blk_frozen BK403.out 5; have hfz16_6 := blk_frozen BK403.out 6) | (go_at_call 25; clear tok4_; (with_reducible refine (objs_Fits.calls a0_3 a0_4 a0_5 true _ A8.out).mono ?_); rintro e w17 ⟨rfl, hb⟩; have n0_ := Aside0.mk (blk_below (g := gb403) (o := .cells #[.int .i64 a0_0, .int .i64 a0_1, .int .i64 a0_2, .int .i64 a0_3, .int .i64 a0_4, .int .i64 a0_5, .int .i64 a0_6] 62 (0, 0)) (by (with_reducible repeat (first | refine blk_drewN ?_ _ | refine blk_drew ?_ | refine blk_alloc ?_ _)); exact BK403.out) hb); have n1_ := Aside0.mk (below_step (by repeat (first | (with_reducible first | exact HB.out | apply below_alloc | apply pw_below_drewN | apply below_drew1 | refine below_set ?_ GE403.out) | exact HB.out)) hb); clear BK403; clear HB; have BK403 := n0_; have HB := n1_; clear n0_ n1_; (try clear hb); (try clear hb2); (try clear hk); (try clear hi); have hcz18_0 : w17.cell? ⟨gb403, 0, none⟩ = some (.int .i64 a0_0) := (blk_cell BK403.out 0).trans rfl; have hcz18_1 : w17.cell? ⟨gb403, 1, none⟩ = some (.int .i64 a0_1) := (blk_cell BK403.out 1).trans rfl; have hcz18_2 : w17.cell? ⟨gb403, 2, none⟩ = some (.int .i64 a0_2) := (blk_cell BK403.out 2).trans rfl; have hcz18_3 : w17.cell? ⟨gb403, 3, none⟩ = some (.int .i64 a0_3) := (blk_cell BK403.out 3).trans rfl; have hcz18_4 : w17.cell? ⟨gb403, 4, none⟩ = some (.int .i64 a0_4) := (blk_cell BK403.out 4).trans rfl; have hcz18_5 : w17.cell? ⟨gb403, 5, none⟩ = some (.int .i64 a0_5) := (blk_cell BK403.out 5).trans rfl; have hcz18_6 : w17.cell? ⟨gb403, 6, none⟩ = some (.int .i64 a0_6) := (blk_cell BK403.out 6).trans rfl; have hfz18_0 := blk_frozen BK403.out 0; have hfz18_1 := blk_frozen BK403.out 1; have hfz18_2 := blk_frozen BK403.out 2; have hfz18_3 := blk_frozen BK403.out 3; have hfz18_4 := blk_frozen BK403.out 4; have hfz18_5 := blk_frozen BK403.out 5; have hfz18_6 := blk_frozen BK403.out 6))
                  go_ret
                  exact ⟨by first | rfl | (simp [errW_none, errW_some] <;> rfl) | (simp [*, errW_none, errW_some] <;> rfl), by repeat (first | (with_reducible first | exact HB.out | apply below_alloc | apply pw_below_drewN | apply below_drew1 | refine below_set ?_ GE403.out) | exact HB.out)⟩
              · replace c9 := Bool.eq_false_iff.mpr c9
                subst c9
                have H1 : (some false) = some r := by rw [if_neg (show ¬ (false = true) by decide)] at H; exact H
                clear H
                have H := H1
                clear H1
                obtain rfl := Option.some.inj H
                go_enter Tryz.func43, Tryz.ntmps43
                have tok5_ : True := trivial
                go_wp2_with (first | ((with_reducible refine gate_dst (N := 1) rfl ?_); refine box_event ?hg (N := 1) ?hd (cs := #[.int .i64 a0_0, .int .i64 a0_1, .int .i64 a0_2, .int .i64 a0_3, .int .i64 a0_4, .int .i64 a0_5, .int .i64 a0_6]) (t := 62) ?hr ?_; (case hd => rfl); (case hg => rfl); (case hr => first | (go_simp; done) | (go_simp; rfl)); intro gb403 hg w19 hbox hb; have n0_ := Aside0.mk (below_step (by repeat (first | (with_reducible first | exact HB.out | apply below_alloc | apply pw_below_drewN | apply below_drew1) | exact HB.out)) hb); have n1_ := Aside0.mk (hbox); have n2_ := Aside0.mk ((by rw [hg]; exact (below_size (by repeat (first | (with_reducible first | exact HB.out | apply below_alloc | apply pw_below_drewN | apply below_drew1) | exact HB.out))) : w.heap.size ≤ gb403)); have n3_ := Aside0.mk ((by rw [hg]; exact (below_size (by repeat (first | (with_reducible first | exact HB.out | apply below_alloc | apply pw_below_drewN | apply below_drew1) | exact HB.out))) : w.heap.size ≤ gb403)); clear HB; have HB := n0_; have BK403 := n1_; have GW403 := n2_; have GE403 := n3_; clear n0_ n1_ n2_ n3_; clear hb hbox hg; have hcz20_0 : w19.cell? ⟨gb403, 0, none⟩ = some (.int .i64 a0_0) := (blk_cell BK403.out 0).trans rfl; have hcz20_1 : w19.cell? ⟨gb403, 1, none⟩ = some (.int .i64 a0_1) := (blk_cell BK403.out 1).trans rfl; have hcz20_2 : w19.cell? ⟨gb403, 2, none⟩ = some (.int .i64 a0_2) := (blk_cell BK403.out 2).trans rfl; have hcz20_3 : w19.cell? ⟨gb403, 3, none⟩ = some (.int .i64 a0_3) := (blk_cell BK403.out 3).trans rfl; have hcz20_4 : w19.cell? ⟨gb403, 4, none⟩ = some (.int .i64 a0_4) := (blk_cell BK403.out 4).trans rfl; have hcz20_5 : w19.cell? ⟨gb403, 5, none⟩ = some (.int .i64 a0_5) := (blk_cell BK403.out 5).trans rfl; have hcz20_6 : w19.cell? ⟨gb403, 6, none⟩ = some (.int .i64 a0_6) := (blk_cell BK403.out 6).trans rfl; have hfz20_0 := blk_frozen BK403.out 0; have hfz20_1 := blk_frozen BK403.out 1; have hfz20_2 := blk_frozen BK403.out 2; have hfz20_3 := blk_frozen BK403.out 3; have hfz20_4 := blk_frozen BK403.out 4; have hfz20_5 := blk_frozen BK403.out 5; have hfz20_6 := blk_frozen BK403.out 6) | (go_at_call 25; clear tok5_; (with_reducible refine (objs_Fits.calls a0_3 a0_4 a0_5 false _ A8.out).mono ?_); rintro e w21 ⟨rfl, hb⟩; have n0_ := Aside0.mk (blk_below (g := gb403) (o := .cells #[.int .i64 a0_0, .int .i64 a0_1, .int .i64 a0_2, .int .i64 a0_3, .int .i64 a0_4, .int .i64 a0_5, .int .i64 a0_6] 62 (0, 0)) (by (with_reducible repeat (first | refine blk_drewN ?_ _ | refine blk_drew ?_ | refine blk_alloc ?_ _)); exact BK403.out) hb); have n1_ := Aside0.mk (below_step (by repeat (first | (with_reducible first | exact HB.out | apply below_alloc | apply pw_below_drewN | apply below_drew1 | refine below_set ?_ GE403.out) | exact HB.out)) hb); clear BK403; clear HB; have BK403 := n0_; have HB := n1_; clear n0_ n1_; (try clear hb); (try clear hb2); (try clear hk); (try clear hi)))
                go_ret
                exact ⟨by first | rfl | (simp [errW_none, errW_some] <;> rfl) | (simp [*, errW_none, errW_some] <;> rfl), by repeat (first | (with_reducible first | exact HB.out | apply below_alloc | apply pw_below_drewN | apply below_drew1 | refine below_set ?_ GE403.out) | exact HB.out)⟩
            · rw [if_neg c7] at H
              have c7b0 : decide (a0_2 < 4611686018427387904) = false := decide_eq_false c7
              clear c7
              obtain rfl := Option.some.inj H
              go_enter Tryz.func43, Tryz.ntmps43
              go_wp2_with (first | ((with_reducible refine gate_dst (N := 1) rfl ?_); refine box_event ?hg (N := 1) ?hd (cs := #[.int .i64 a0_0, .int .i64 a0_1, .int .i64 a0_2, .int .i64 a0_3, .int .i64 a0_4, .int .i64 a0_5, .int .i64 a0_6]) (t := 62) ?hr ?_; (case hd => rfl); (case hg => rfl); (case hr => first | (go_simp; done) | (go_simp; rfl)); intro gb403 hg w22 hbox hb; have n0_ := Aside0.mk (below_step (by repeat (first | (with_reducible first | exact HB.out | apply below_alloc | apply pw_below_drewN | apply below_drew1) | exact HB.out)) hb); have n1_ := Aside0.mk (hbox); have n2_ := Aside0.mk ((by rw [hg]; exact (below_size (by repeat (first | (with_reducible first | exact HB.out | apply below_alloc | apply pw_below_drewN | apply below_drew1) | exact HB.out))) : w.heap.size ≤ gb403)); have n3_ := Aside0.mk ((by rw [hg]; exact (below_size (by repeat (first | (with_reducible first | exact HB.out | apply below_alloc | apply pw_below_drewN | apply below_drew1) | exact HB.out))) : w.heap.size ≤ gb403)); clear HB; have HB := n0_; have BK403 := n1_; have GW403 := n2_; have GE403 := n3_; clear n0_ n1_ n2_ n3_; clear hb hbox hg; have hcz23_0 : w22.cell? ⟨gb403, 0, none⟩ = some (.int .i64 a0_0) := (blk_cell BK403.out 0).trans rfl; have hcz23_1 : w22.cell? ⟨gb403, 1, none⟩ = some (.int .i64 a0_1) := (blk_cell BK403.out 1).trans rfl; have hcz23_2 : w22.cell? ⟨gb403, 2, none⟩ = some (.int .i64 a0_2) := (blk_cell BK403.out 2).trans rfl; have hcz23_3 : w22.cell? ⟨gb403, 3, none⟩ = some (.int .i64 a0_3) := (blk_cell BK403.out 3).trans rfl; have hcz23_4 : w22.cell? ⟨gb403, 4, none⟩ = some (.int .i64 a0_4) := (blk_cell BK403.out 4).trans rfl; have hcz23_5 : w22.cell? ⟨gb403, 5, none⟩ = some (.int .i64 a0_5) := (blk_cell BK403.out 5).trans rfl; have hcz23_6 : w22.cell? ⟨gb403, 6, none⟩ = some (.int .i64 a0_6) := (blk_cell BK403.out 6).trans rfl; have hfz23_0 := blk_frozen BK403.out 0; have hfz23_1 := blk_frozen BK403.out 1; have hfz23_2 := blk_frozen BK403.out 2; have hfz23_3 := blk_frozen BK403.out 3; have hfz23_4 := blk_frozen BK403.out 4; have hfz23_5 := blk_frozen BK403.out 5; have hfz23_6 := blk_frozen BK403.out 6))
              go_ret
              exact ⟨by first | rfl | (simp [errW_none, errW_some] <;> rfl) | (simp [*, errW_none, errW_some] <;> rfl), by repeat (first | (with_reducible first | exact HB.out | apply below_alloc | apply pw_below_drewN | apply below_drew1 | refine below_set ?_ GE403.out) | exact HB.out)⟩
          · rw [if_neg c6] at H
            have c6b0 : decide (0 ≤ a0_2) = false := decide_eq_false c6
            clear c6
            obtain rfl := Option.some.inj H
            go_enter Tryz.func43, Tryz.ntmps43
            go_wp2_with (first | ((with_reducible refine gate_dst (N := 1) rfl ?_); refine box_event ?hg (N := 1) ?hd (cs := #[.int .i64 a0_0, .int .i64 a0_1, .int .i64 a0_2, .int .i64 a0_3, .int .i64 a0_4, .int .i64 a0_5, .int .i64 a0_6]) (t := 62) ?hr ?_; (case hd => rfl); (case hg => rfl); (case hr => first | (go_simp; done) | (go_simp; rfl)); intro gb403 hg w24 hbox hb; have n0_ := Aside0.mk (below_step (by repeat (first | (with_reducible first | exact HB.out | apply below_alloc | apply pw_below_drewN | apply below_drew1) | exact HB.out)) hb); have n1_ := Aside0.mk (hbox); have n2_ := Aside0.mk ((by rw [hg]; exact (below_size (by repeat (first | (with_reducible first | exact HB.out | apply below_alloc | apply pw_below_drewN | apply below_drew1) | exact HB.out))) : w.heap.size ≤ gb403)); have n3_ := Aside0.mk ((by rw [hg]; exact (below_size (by repeat (first | (with_reducible first | exact HB.out | apply below_alloc | apply pw_below_drewN | apply below_drew1) | exact HB.out))) : w.heap.size ≤ gb403)); clear HB; have HB := n0_; have BK403 := n1_; have GW403 := n2_; have GE403 := n3_; clear n0_ n1_ n2_ n3_; clear hb hbox hg; have hcz25_0 : w24.cell? ⟨gb403, 0, none⟩ = some (.int .i64 a0_0) := (blk_cell BK403.out 0).trans rfl; have hcz25_1 : w24.cell? ⟨gb403, 1, none⟩ = some (.int .i64 a0_1) := (blk_cell BK403.out 1).trans rfl; have hcz25_2 : w24.cell? ⟨gb403, 2, none⟩ = some (.int .i64 a0_2) := (blk_cell BK403.out 2).trans rfl; have hcz25_3 : w24.cell? ⟨gb403, 3, none⟩ = some (.int .i64 a0_3) := (blk_cell BK403.out 3).trans rfl; have hcz25_4 : w24.cell? ⟨gb403, 4, none⟩ = some (.int .i64 a0_4) := (blk_cell BK403.out 4).trans rfl; have hcz25_5 : w24.cell? ⟨gb403, 5, none⟩ = some (.int .i64 a0_5) := (blk_cell BK403.out 5).trans rfl; have hcz25_6 : w24.cell? ⟨gb403, 6, none⟩ = some (.int .i64 a0_6) := (blk_cell BK403.out 6).trans rfl; have hfz25_0 := blk_frozen BK403.out 0; have hfz25_1 := blk_frozen BK403.out 1; have hfz25_2 := blk_frozen BK403.out 2; have hfz25_3 := blk_frozen BK403.out 3; have hfz25_4 := blk_frozen BK403.out 4; have hfz25_5 := blk_frozen BK403.out 5; have hfz25_6 := blk_frozen BK403.out 6))
            go_ret
            exact ⟨by first | rfl | (simp [errW_none, errW_some] <;> rfl) | (simp [*, errW_none, errW_some] <;> rfl), by repeat (first | (with_reducible first | exact HB.out | apply below_alloc | apply pw_below_drewN | apply below_drew1 | refine below_set ?_ GE403.out) | exact HB.out)⟩
        · rw [if_neg c5] at H
          have c5b0 : decide (a0_1 ≤ 64) = false := decide_eq_false c5
          clear c5
          obtain rfl := Option.some.inj H
          go_enter Tryz.func43, Tryz.ntmps43
          go_wp2_with (first | ((with_reducible refine gate_dst (N := 1) rfl ?_); refine box_event ?hg (N := 1) ?hd (cs := #[.int .i64 a0_0, .int .i64 a0_1, .int .i64 a0_2, .int .i64 a0_3, .int .i64 a0_4, .int .i64 a0_5, .int .i64 a0_6]) (t := 62) ?hr ?_; (case hd => rfl); (case hg => rfl); (case hr => first | (go_simp; done) | (go_simp; rfl)); intro gb403 hg w26 hbox hb; have n0_ := Aside0.mk (below_step (by repeat (first | (with_reducible first | exact HB.out | apply below_alloc | apply pw_below_drewN | apply below_drew1) | exact HB.out)) hb); have n1_ := Aside0.mk (hbox); have n2_ := Aside0.mk ((by rw [hg]; exact (below_size (by repeat (first | (with_reducible first | exact HB.out | apply below_alloc | apply pw_below_drewN | apply below_drew1) | exact HB.out))) : w.heap.size ≤ gb403)); have n3_ := Aside0.mk ((by rw [hg]; exact (below_size (by repeat (first | (with_reducible first | exact HB.out | apply below_alloc | apply pw_below_drewN | apply below_drew1) | exact HB.out))) : w.heap.size ≤ gb403)); clear HB; have HB := n0_; have BK403 := n1_; have GW403 := n2_; have GE403 := n3_; clear n0_ n1_ n2_ n3_; clear hb hbox hg; have hcz27_0 : w26.cell? ⟨gb403, 0, none⟩ = some (.int .i64 a0_0) := (blk_cell BK403.out 0).trans rfl; have hcz27_1 : w26.cell? ⟨gb403, 1, none⟩ = some (.int .i64 a0_1) := (blk_cell BK403.out 1).trans rfl; have hcz27_2 : w26.cell? ⟨gb403, 2, none⟩ = some (.int .i64 a0_2) := (blk_cell BK403.out 2).trans rfl; have hcz27_3 : w26.cell? ⟨gb403, 3, none⟩ = some (.int .i64 a0_3) := (blk_cell BK403.out 3).trans rfl; have hcz27_4 : w26.cell? ⟨gb403, 4, none⟩ = some (.int .i64 a0_4) := (blk_cell BK403.out 4).trans rfl; have hcz27_5 : w26.cell? ⟨gb403, 5, none⟩ = some (.int .i64 a0_5) := (blk_cell BK403.out 5).trans rfl; have hcz27_6 : w26.cell? ⟨gb403, 6, none⟩ = some (.int .i64 a0_6) := (blk_cell BK403.out 6).trans rfl; have hfz27_0 := blk_frozen BK403.out 0; have hfz27_1 := blk_frozen BK403.out 1; have hfz27_2 := blk_frozen BK403.out 2; have hfz27_3 := blk_frozen BK403.out 3; have hfz27_4 := blk_frozen BK403.out 4; have hfz27_5 := blk_frozen BK403.out 5; have hfz27_6 := blk_frozen BK403.out 6))
          go_ret
          exact ⟨by first | rfl | (simp [errW_none, errW_some] <;> rfl) | (simp [*, errW_none, errW_some] <;> rfl), by repeat (first | (with_reducible first | exact HB.out | apply below_alloc | apply pw_below_drewN | apply below_drew1 | refine below_set ?_ GE403.out) | exact HB.out)⟩
      · rw [if_neg c4] at H
        have c4b0 : decide (0 ≤ a0_1) = false := decide_eq_false c4
        clear c4
        obtain rfl := Option.some.inj H
        go_enter Tryz.func43, Tryz.ntmps43
        go_wp2_with (first | ((with_reducible refine gate_dst (N := 1) rfl ?_); refine box_event ?hg (N := 1) ?hd (cs := #[.int .i64 a0_0, .int .i64 a0_1, .int .i64 a0_2, .int .i64 a0_3, .int .i64 a0_4, .int .i64 a0_5, .int .i64 a0_6]) (t := 62) ?hr ?_; (case hd => rfl); (case hg => rfl); (case hr => first | (go_simp; done) | (go_simp; rfl)); intro gb403 hg w28 hbox hb; have n0_ := Aside0.mk (below_step (by repeat (first | (with_reducible first | exact HB.out | apply below_alloc | apply pw_below_drewN | apply below_drew1) | exact HB.out)) hb); have n1_ := Aside0.mk (hbox); have n2_ := Aside0.mk ((by rw [hg]; exact (below_size (by repeat (first | (with_reducible first | exact HB.out | apply below_alloc | apply pw_below_drewN | apply below_drew1) | exact HB.out))) : w.heap.size ≤ gb403)); have n3_ := Aside0.mk ((by rw [hg]; exact (below_size (by repeat (first | (with_reducible first | exact HB.out | apply below_alloc | apply pw_below_drewN | apply below_drew1) | exact HB.out))) : w.heap.size ≤ gb403)); clear HB; have HB := n0_; have BK403 := n1_; have GW403 := n2_; have GE403 := n3_; clear n0_ n1_ n2_ n3_; clear hb hbox hg; have hcz29_0 : w28.cell? ⟨gb403, 0, none⟩ = some (.int .i64 a0_0) := (blk_cell BK403.out 0).trans rfl; have hcz29_1 : w28.cell? ⟨gb403, 1, none⟩ = some (.int .i64 a0_1) := (blk_cell BK403.out 1).trans rfl; have hcz29_2 : w28.cell? ⟨gb403, 2, none⟩ = some (.int .i64 a0_2) := (blk_cell BK403.out 2).trans rfl; have hcz29_3 : w28.cell? ⟨gb403, 3, none⟩ = some (.int .i64 a0_3) := (blk_cell BK403.out 3).trans rfl; have hcz29_4 : w28.cell? ⟨gb403, 4, none⟩ = some (.int .i64 a0_4) := (blk_cell BK403.out 4).trans rfl; have hcz29_5 : w28.cell? ⟨gb403, 5, none⟩ = some (.int .i64 a0_5) := (blk_cell BK403.out 5).trans rfl; have hcz29_6 : w28.cell? ⟨gb403, 6, none⟩ = some (.int .i64 a0_6) := (blk_cell BK403.out 6).trans rfl; have hfz29_0 := blk_frozen BK403.out 0; have hfz29_1 := blk_frozen BK403.out 1; have hfz29_2 := blk_frozen BK403.out 2; have hfz29_3 := blk_frozen BK403.out 3; have hfz29_4 := blk_frozen BK403.out 4; have hfz29_5 := blk_frozen BK403.out 5; have hfz29_6 := blk_frozen BK403.out 6))
        go_ret
        exact ⟨by first | rfl | (simp [errW_none, errW_some] <;> rfl) | (simp [*, errW_none, errW_some] <;> rfl), by repeat (first | (with_reducible first | exact HB.out | apply below_alloc | apply pw_below_drewN | apply below_drew1 | refine below_set ?_ GE403.out) | exact HB.out)⟩
    · rw [if_neg c3] at H
      have c3b0 : decide (a0_0 < 4611686018427387904) = false := decide_eq_false c3
      clear c3
      obtain rfl := Option.some.inj H
      go_enter Tryz.func43, Tryz.ntmps43
      go_wp2_with (first | ((with_reducible refine gate_dst (N := 1) rfl ?_); refine box_event ?hg (N := 1) ?hd (cs := #[.int .i64 a0_0, .int .i64 a0_1, .int .i64 a0_2, .int .i64 a0_3, .int .i64 a0_4, .int .i64 a0_5, .int .i64 a0_6]) (t := 62) ?hr ?_; (case hd => rfl); (case hg => rfl); (case hr => first | (go_simp; done) | (go_simp; rfl)); intro gb403 hg w30 hbox hb; have n0_ := Aside0.mk (below_step (by repeat (first | (with_reducible first | exact HB.out | apply below_alloc | apply pw_below_drewN | apply below_drew1) | exact HB.out)) hb); have n1_ := Aside0.mk (hbox); have n2_ := Aside0.mk ((by rw [hg]; exact (below_size (by repeat (first | (with_reducible first | exact HB.out | apply below_alloc | apply pw_below_drewN | apply below_drew1) | exact HB.out))) : w.heap.size ≤ gb403)); have n3_ := Aside0.mk ((by rw [hg]; exact (below_size (by repeat (first | (with_reducible first | exact HB.out | apply below_alloc | apply pw_below_drewN | apply below_drew1) | exact HB.out))) : w.heap.size ≤ gb403)); clear HB; have HB := n0_; have BK403 := n1_; have GW403 := n2_; have GE403 := n3_; clear n0_ n1_ n2_ n3_; clear hb hbox hg; have hcz31_0 : w30.cell? ⟨gb403, 0, none⟩ = some (.int .i64 a0_0) := (blk_cell BK403.out 0).trans rfl; have hcz31_1 : w30.cell? ⟨gb403, 1, none⟩ = some (.int .i64 a0_1) := (blk_cell BK403.out 1).trans rfl; have hcz31_2 : w30.cell? ⟨gb403, 2, none⟩ = some (.int .i64 a0_2) := (blk_cell BK403.out 2).trans rfl; have hcz31_3 : w30.cell? ⟨gb403, 3, none⟩ = some (.int .i64 a0_3) := (blk_cell BK403.out 3).trans rfl; have hcz31_4 : w30.cell? ⟨gb403, 4, none⟩ = some (.int .i64 a0_4) := (blk_cell BK403.out 4).trans rfl; have hcz31_5 : w30.cell? ⟨gb403, 5, none⟩ = some (.int .i64 a0_5) := (blk_cell BK403.out 5).trans rfl; have hcz31_6 : w30.cell? ⟨gb403, 6, none⟩ = some (.int .i64 a0_6) := (blk_cell BK403.out 6).trans rfl; have hfz31_0 := blk_frozen BK403.out 0; have hfz31_1 := blk_frozen BK403.out 1; have hfz31_2 := blk_frozen BK403.out 2; have hfz31_3 := blk_frozen BK403.out 3; have hfz31_4 := blk_frozen BK403.out 4; have hfz31_5 := blk_frozen BK403.out 5; have hfz31_6 := blk_frozen BK403.out 6))
      go_ret
      exact ⟨by first | rfl | (simp [errW_none, errW_some] <;> rfl) | (simp [*, errW_none, errW_some] <;> rfl), by repeat (first | (with_reducible first | exact HB.out | apply below_alloc | apply pw_below_drewN | apply below_drew1 | refine below_set ?_ GE403.out) | exact HB.out)⟩
  · rw [if_neg c2] at H
    have c2b0 : decide (0 ≤ a0_0) = false := decide_eq_false c2
    clear c2
    obtain rfl := Option.some.inj H
    go_enter Tryz.func43, Tryz.ntmps43
    go_wp2_with (first | ((with_reducible refine gate_dst (N := 1) rfl ?_); refine box_event ?hg (N := 1) ?hd (cs := #[.int .i64 a0_0, .int .i64 a0_1, .int .i64 a0_2, .int .i64 a0_3, .int .i64 a0_4, .int .i64 a0_5, .int .i64 a0_6]) (t := 62) ?hr ?_; (case hd => rfl); (case hg => rfl); (case hr => first | (go_simp; done) | (go_simp; rfl)); intro gb403 hg w32 hbox hb; have n0_ := Aside0.mk (below_step (by repeat (first | (with_reducible first | exact HB.out | apply below_alloc | apply pw_below_drewN | apply below_drew1) | exact HB.out)) hb); have n1_ := Aside0.mk (hbox); have n2_ := Aside0.mk ((by rw [hg]; exact (below_size (by repeat (first | (with_reducible first | exact HB.out | apply below_alloc | apply pw_below_drewN | apply below_drew1) | exact HB.out))) : w.heap.size ≤ gb403)); have n3_ := Aside0.mk ((by rw [hg]; exact (below_size (by repeat (first | (with_reducible first | exact HB.out | apply below_alloc | apply pw_below_drewN | apply below_drew1) | exact HB.out))) : w.heap.size ≤ gb403)); clear HB; have HB := n0_; have BK403 := n1_; have GW403 := n2_; have GE403 := n3_; clear n0_ n1_ n2_ n3_; clear hb hbox hg; have hcz33_0 : w32.cell? ⟨gb403, 0, none⟩ = some (.int .i64 a0_0) := (blk_cell BK403.out 0).trans rfl; have hcz33_1 : w32.cell? ⟨gb403, 1, none⟩ = some (.int .i64 a0_1) := (blk_cell BK403.out 1).trans rfl; have hcz33_2 : w32.cell? ⟨gb403, 2, none⟩ = some (.int .i64 a0_2) := (blk_cell BK403.out 2).trans rfl; have hcz33_3 : w32.cell? ⟨gb403, 3, none⟩ = some (.int .i64 a0_3) := (blk_cell BK403.out 3).trans rfl; have hcz33_4 : w32.cell? ⟨gb403, 4, none⟩ = some (.int .i64 a0_4) := (blk_cell BK403.out 4).trans rfl; have hcz33_5 : w32.cell? ⟨gb403, 5, none⟩ = some (.int .i64 a0_5) := (blk_cell BK403.out 5).trans rfl; have hcz33_6 : w32.cell? ⟨gb403, 6, none⟩ = some (.int .i64 a0_6) := (blk_cell BK403.out 6).trans rfl; have hfz33_0 := blk_frozen BK403.out 0; have hfz33_1 := blk_frozen BK403.out 1; have hfz33_2 := blk_frozen BK403.out 2; have hfz33_3 := blk_frozen BK403.out 3; have hfz33_4 := blk_frozen BK403.out 4; have hfz33_5 := blk_frozen BK403.out 5; have hfz33_6 := blk_frozen BK403.out 6))
    go_ret
    exact ⟨by first | rfl | (simp [errW_none, errW_some] <;> rfl) | (simp [*, errW_none, errW_some] <;> rfl), by repeat (first | (with_reducible first | exact HB.out | apply below_alloc | apply pw_below_drewN | apply below_drew1 | refine below_set ?_ GE403.out) | exact HB.out)⟩
/-! ### block_Fits: function 128 -/
def block_Fits.l0 : Nat → List (S62) → List (S62) → Int → Int → Option (Bool)
  | 0, _, _, _, _ => none
  | k + 1, x0, x5, x6, x7 => if x7 < x6 then (if 0 ≤ x7 then (if x7 < (x5.length : Int) then ((schema_Fits.f ((rd_T62 x5 x7).f0) ((rd_T62 x5 x7).f1) ((rd_T62 x5 x7).f2) ((rd_T62 x5 x7).f3.f0) ((rd_T62 x5 x7).f3.f1) ((rd_T62 x5 x7).f3.f2) ((rd_T62 x5 x7).f4)).bind fun t407 => (if t407 = true then (if 0 < (x0.length : Int) then (if ((rd_T62 x5 x7).f0) = (wrap64 (((rd_T62 x0 0).f0) + x7)) then (block_Fits.l0 k x0 x5 x6 (wrap64 (x7 + 1))) else (some false)) else (none)) else (some false))) else (none)) else (none)) else (if (x0.length : Int) > 0 then (some (decide ((x0.length : Int) ≤ 256))) else (some false))
def block_Fits.f (k : Nat) (l0 : List (S62)) : Option (Bool) := block_Fits.l0 k l0 l0 (l0.length : Int) 0
theorem block_Fits.mono_l : ∀ k, (∀ y0 y1 y2 y3, LeO (block_Fits.l0 k y0 y1 y2 y3) (block_Fits.l0 (k + 1) y0 y1 y2 y3))
  | 0 => fun _ _ _ _ r h => by simp [block_Fits.l0] at h
  | k + 1 => by
    have ih0 := block_Fits.mono_l k
    · intro y0 y1 y2 y3
      unfold block_Fits.l0
      repeat' first
      | (with_reducible exact ih0 _ _ _ _)
      | (with_reducible exact LeO.refl _)
      | (with_reducible exact LeO.none _)
      | (with_reducible refine LeO.ite ?_ ?_)
      | (with_reducible refine LeO.bind ?_ (fun _ => ?_))
      | exact ih0 _ _ _ _
      | exact LeO.none _
      | refine LeO.ite ?_ ?_
      | refine LeO.bind ?_ (fun _ => ?_)
theorem block_Fits.mono : ∀ a0 k, LeO (block_Fits.f k a0) (block_Fits.f (k + 1) a0) := by
  intro a0 k
  have ih0 := block_Fits.mono_l k
  unfold block_Fits.f
  repeat' first
      | (with_reducible exact ih0 _ _ _ _)
      | (with_reducible exact LeO.refl _)
      | (with_reducible exact LeO.none _)
      | (with_reducible refine LeO.ite ?_ ?_)
      | (with_reducible refine LeO.bind ?_ (fun _ => ?_))
      | exact ih0 _ _ _ _
      | exact LeO.none _
      | refine LeO.ite ?_ ?_
      | refine LeO.bind ?_ (fun _ => ?_)
def block_Fits.T4 : Bool × List (List Nat × List Nat) := (true, [([], []), ([0], [0]), ([1], [1]), ([2, 1], [2]), ([3], [3]), ([4, 3], [3, 4]), ([3], [3]), ([6, 3], [3, 6]), ([7, 3], [3, 7]), ([8, 3], [3, 8]), ([3], [3]), ([9, 10, 3], [3, 9, 10]), ([5, 11, 3], [3, 5, 11]), ([3, 12], [3, 12])])
def block_Fits.B4 : List Nat := [0, 1, 3, 7, 15, 31, 15, 79, 207, 463, 15, 1999, 4095, 8191]
theorem block_Fits.tab4 : rtab .any (opsOf Tryz.f128 4) = block_Fits.T4 := by kernel_rfl
theorem block_Fits.bits4 : waitsOk block_Fits.T4.2 block_Fits.B4 = true := by kernel_rfl
set_option maxHeartbeats 8000000 in
set_option maxRecDepth 100000 in
theorem block_Fits.calls (k : Nat) (A0 : Option Addr) (c0 : Nat) (l0 : List (S62)) (r : Bool) (w : World) (hr0 : Kd.C k62 w A0 l0.length l0) (hc0 : l0.length ≤ c0) (h : block_Fits.f k l0 = some r) :
    Calls Tryz.prog 128 #[.slice A0 l0.length c0] w fun e w' => e = .returned (.bool r) ∧ Below w.heap.size w w' := by
  have hu62 := Tryz.underlying62
  have HR0 := Aside0.mk hr0
  have HC0 := Aside0.mk hc0
  clear hr0 hc0
  have HB := Aside0.mk (Below.refl w.heap.size w)
  have H : (block_Fits.l0 k l0 l0 (l0.length : Int) 0) = some r := h
  clear h
  have H' := Aside0.mk H
  clear H
  go_enter Tryz.func128, Tryz.ntmps128
  go_wp2
  go_loopg [7] k (fun kq v7 w' => ∃ (x7_1 : Int), v7 = .int .i64 x7_1 ∧ Aside0 (block_Fits.l0 kq l0 l0 (l0.length : Int) x7_1 = some r) ∧ Aside0 (kq ≤ k) ∧ Aside0 (Below w.heap.size w w'))
  case atStart => exact ⟨(0), (by first | rfl | (simp; done) | (simp [*]; done)), H', ⟨Nat.le_refl _⟩, ⟨by repeat (first | (with_reducible first | exact HB.out | apply below_alloc | apply pw_below_drewN | apply below_drew1) | exact HB.out)⟩⟩
  case round =>
    clear H'
    try clear c1
    obtain ⟨x7_1, rfl, HA, HK1, HB⟩ := hrel
    cases gk with
    | zero => exact absurd HA.out (by simp [block_Fits.l0])
    | succ k1 =>
      have H := HA.out
      clear HA
      simp only [block_Fits.l0] at H
      by_cases c2 : x7_1 < (l0.length : Int)
      · rw [if_pos c2] at H
        have c2b0 : decide (x7_1 < (l0.length : Int)) = true := decide_eq_true c2
        clear c2
        by_cases c3 : 0 ≤ x7_1
        · rw [if_pos c3] at H
          have c3b0 : decide (0 ≤ x7_1) = true := decide_eq_true c3
          clear c3
          by_cases c4 : x7_1 < (l0.length : Int)
          · rw [if_pos c4] at H
            have c4b0 : decide (x7_1 < (l0.length : Int)) = true := decide_eq_true c4
            clear c4
            replace H := Option.bind_eq_some_iff.mp H
            obtain ⟨t407, A50, H⟩ := H
            replace H : (if t407 = true then (if 0 < (l0.length : Int) then (if ((rd_T62 l0 x7_1).f0) = (wrap64 (((rd_T62 l0 0).f0) + x7_1)) then (block_Fits.l0 k1 l0 l0 (l0.length : Int) (wrap64 (x7_1 + 1))) else (some false)) else (none)) else (some false)) = some r := H
            have A5 := Aside0.mk A50
            clear A50
            by_cases c6 : t407 = true
            · subst c6
              have H1 : (if 0 < (l0.length : Int) then (if ((rd_T62 l0 x7_1).f0) = (wrap64 (((rd_T62 l0 0).f0) + x7_1)) then (block_Fits.l0 k1 l0 l0 (l0.length : Int) (wrap64 (x7_1 + 1))) else (some false)) else (none)) = some r := by rw [if_pos rfl] at H; exact H
              clear H
              have H := H1
              clear H1
              by_cases c7 : 0 < (l0.length : Int)
              · rw [if_pos c7] at H
                have c7b0 : decide (0 < (l0.length : Int)) = true := decide_eq_true c7
                have c7b1 : decide (0 < l0.length) = true := decide_eq_true (by omega)
                clear c7
                by_cases c8 : ((rd_T62 l0 x7_1).f0) = (wrap64 (((rd_T62 l0 0).f0) + x7_1))
                · rw [if_pos c8] at H
                  have c8b0 : (((rd_T62 l0 x7_1).f0) == (wrap64 (((rd_T62 l0 0).f0) + x7_1))) = true := beq_iff_eq.mpr c8
                  have c8b1 : (((rd_T62 l0 x7_1).f0) != (wrap64 (((rd_T62 l0 0).f0) + x7_1))) = false := bne_eq_false_iff_eq.mpr c8
                  clear c8
                  have H' := Aside0.mk H
                  clear H
                  have p405 : 0 ≤ (x7_1 : Int) := of_decide_eq_true (by first | (with_reducible assumption) | assumption)
                  have q405 : x7_1 < (l0.length : Int) := of_decide_eq_true (by first | (with_reducible assumption) | assumption)
                  obtain ⟨ad405, e405, hx405_0, hx405_1, hx405_2, hx405_3, hx405_4, hx405_5, hx405_6⟩ := at_T62 HR0.out x7_1 p405 q405
                  cases e405
                  replace hx405_0 := (HB.out.cell (World.block_lt_of_cell? w _ hx405_0)).trans hx405_0
                  replace hx405_1 := (HB.out.cell (World.block_lt_of_cell? w _ hx405_1)).trans hx405_1
                  replace hx405_2 := (HB.out.cell (World.block_lt_of_cell? w _ hx405_2)).trans hx405_2
                  replace hx405_3 := (HB.out.cell (World.block_lt_of_cell? w _ hx405_3)).trans hx405_3
                  replace hx405_4 := (HB.out.cell (World.block_lt_of_cell? w _ hx405_4)).trans hx405_4
                  replace hx405_5 := (HB.out.cell (World.block_lt_of_cell? w _ hx405_5)).trans hx405_5
                  replace hx405_6 := (HB.out.cell (World.block_lt_of_cell? w _ hx405_6)).trans hx405_6
                  replace p405 := eq_true p405
                  replace q405 := eq_true q405
                  try go_wp2_with (first | ((with_reducible refine gate_dst (N := 4) rfl ?_); (try (refine gate_guard (by rfl) ?_; dsimp only)); refine box_event ?hg (N := 4) ?hd (cs := #[.int .i64 0, .int .i64 0, .int .i64 0, .int .i64 0, .int .i64 0, .int .i64 0, .int .i64 0]) (t := 62) ?hr ?_; (case hd => rfl); (case hg => rfl); (case hr => first | (go_simp; done) | (go_simp; rfl)); intro gb406 hg w9 hbox hb; have n0_ := Aside0.mk (below_step (by repeat (first | (with_reducible first | exact HB.out | apply below_alloc | apply pw_below_drewN | apply below_drew1) | exact HB.out)) hb); have n1_ := Aside0.mk (hbox); have n2_ := Aside0.mk ((by rw [hg]; exact (below_size (by repeat (first | (with_reducible first | exact HB.out | apply below_alloc | apply pw_below_drewN | apply below_drew1) | exact HB.out))) : w.heap.size ≤ gb406)); have n3_ := Aside0.mk ((by rw [hg]; exact (below_size (by repeat (first | (with_reducible first | exact HB.out | apply below_alloc | apply pw_below_drewN | apply below_drew1) | exact HB.out))) : w.heap.size ≤ gb406)); clear HB; have HB := n0_; have BK406 := n1_; have GW406 := n2_; have GE406 := n3_; clear n0_ n1_ n2_ n3_; clear hb hbox hg; have hcz10_0 : w9.cell? ⟨gb406, 0, none⟩ = some (.int .i64 0) := (blk_cell BK406.out 0).trans rfl; have hcz10_1 : w9.cell? ⟨gb406, 1, none⟩ = some (.int .i64 0) := (blk_cell BK406.out 1).trans rfl; have hcz10_2 : w9.cell? ⟨gb406, 2, none⟩ = some (.int .i64 0) := (blk_cell BK406.out 2).trans rfl; have hcz10_3 : w9.cell? ⟨gb406, 3, none⟩ = some (.int .i64 0) := (blk_cell BK406.out 3).trans rfl; have hcz10_4 : w9.cell? ⟨gb406, 4, none⟩ = some (.int .i64 0) := (blk_cell BK406.out 4).trans rfl; have hcz10_5 : w9.cell? ⟨gb406, 5, none⟩ = some (.int .i64 0) := (blk_cell BK406.out 5).trans rfl; have hcz10_6 : w9.cell? ⟨gb406, 6, none⟩ = some (.int .i64 0) := (blk_cell BK406.out 6).trans rfl; have hfz10_0 := blk_frozen BK406.out 0; have hfz10_1 := blk_frozen BK406.out 1; have hfz10_2 := blk_frozen BK406.out 2; have hfz10_3 := blk_frozen BK406.out 3; have hfz10_4 := blk_frozen BK406.out 4; have hfz10_5 := blk_frozen BK406.out 5; have hfz10_6 := blk_frozen BK406.out 6))
                  have n0_ : Aside0 ((((((((w9.setCell ⟨gb406, 0, none⟩ (.int .i64 ((rd_T62 l0 x7_1).f0))).setCell ⟨gb406, 1, none⟩ (.int .i64 ((rd_T62 l0 x7_1).f1))).setCell ⟨gb406, 2, none⟩ (.int .i64 ((rd_T62 l0 x7_1).f2))).setCell ⟨gb406, 3, none⟩ (.int .i64 ((rd_T62 l0 x7_1).f3.f0))).setCell ⟨gb406, 4, none⟩ (.int .i64 ((rd_T62 l0 x7_1).f3.f1))).setCell ⟨gb406, 5, none⟩ (.int .i64 ((rd_T62 l0 x7_1).f3.f2))).setCell ⟨gb406, 6, none⟩ (.int .i64 ((rd_T62 l0 x7_1).f4))).heap[gb406]? = some (.cells #[.int .i64 ((rd_T62 l0 x7_1).f0), .int .i64 ((rd_T62 l0 x7_1).f1), .int .i64 ((rd_T62 l0 x7_1).f2), .int .i64 ((rd_T62 l0 x7_1).f3.f0), .int .i64 ((rd_T62 l0 x7_1).f3.f1), .int .i64 ((rd_T62 l0 x7_1).f3.f2), .int .i64 ((rd_T62 l0 x7_1).f4)] 62 (0, 0))) := ⟨by (with_reducible repeat (first | refine blk_drewN ?_ _ | refine blk_drew ?_ | refine blk_alloc ?_ _)); refine blk_put (cs := #[.int .i64 ((rd_T62 l0 x7_1).f0), .int .i64 ((rd_T62 l0 x7_1).f1), .int .i64 ((rd_T62 l0 x7_1).f2), .int .i64 ((rd_T62 l0 x7_1).f3.f0), .int .i64 ((rd_T62 l0 x7_1).f3.f1), .int .i64 ((rd_T62 l0 x7_1).f3.f2), .int .i64 0]) ?_ 6 _ (by first | rfl | (simp only [gt_iff_lt, *]; rfl) | (simp [*]; done)); (with_reducible repeat (first | refine blk_drewN ?_ _ | refine blk_drew ?_ | refine blk_alloc ?_ _)); refine blk_put (cs := #[.int .i64 ((rd_T62 l0 x7_1).f0), .int .i64 ((rd_T62 l0 x7_1).f1), .int .i64 ((rd_T62 l0 x7_1).f2), .int .i64 ((rd_T62 l0 x7_1).f3.f0), .int .i64 ((rd_T62 l0 x7_1).f3.f1), .int .i64 0, .int .i64 0]) ?_ 5 _ (by first | rfl | (simp only [gt_iff_lt, *]; rfl) | (simp [*]; done)); (with_reducible repeat (first | refine blk_drewN ?_ _ | refine blk_drew ?_ | refine blk_alloc ?_ _)); refine blk_put (cs := #[.int .i64 ((rd_T62 l0 x7_1).f0), .int .i64 ((rd_T62 l0 x7_1).f1), .int .i64 ((rd_T62 l0 x7_1).f2), .int .i64 ((rd_T62 l0 x7_1).f3.f0), .int .i64 0, .int .i64 0, .int .i64 0]) ?_ 4 _ (by first | rfl | (simp only [gt_iff_lt, *]; rfl) | (simp [*]; done)); (with_reducible repeat (first | refine blk_drewN ?_ _ | refine blk_drew ?_ | refine blk_alloc ?_ _)); refine blk_put (cs := #[.int .i64 ((rd_T62 l0 x7_1).f0), .int .i64 ((rd_T62 l0 x7_1).f1), .int .i64 ((rd_T62 l0 x7_1).f2), .int .i64 0, .int .i64 0, .int .i64 0, .int .i64 0]) ?_ 3 _ (by first | rfl | (simp only [gt_iff_lt, *]; rfl) | (simp [*]; done)); (with_reducible repeat (first | refine blk_drewN ?_ _ | refine blk_drew ?_ | refine blk_alloc ?_ _)); refine blk_put (cs := #[.int .i64 ((rd_T62 l0 x7_1).f0), .int .i64 ((rd_T62 l0 x7_1).f1), .int .i64 0, .int .i64 0, .int .i64 0, .int .i64 0, .int .i64 0]) ?_ 2 _ (by first | rfl | (simp only [gt_iff_lt, *]; rfl) | (simp [*]; done)); (with_reducible repeat (first | refine blk_drewN ?_ _ | refine blk_drew ?_ | refine blk_alloc ?_ _)); refine blk_put (cs := #[.int .i64 ((rd_T62 l0 x7_1).f0), .int .i64 0, .int .i64 0, .int .i64 0, .int .i64 0, .int .i64 0, .int .i64 0]) ?_ 1 _ (by first | rfl | (simp only [gt_iff_lt, *]; rfl) | (simp [*]; done)); (with_reducible repeat (first | refine blk_drewN ?_ _ | refine blk_drew ?_ | refine blk_alloc ?_ _)); refine blk_put (cs := #[.int .i64 0, .int .i64 0, .int .i64 0, .int .i64 0, .int .i64 0, .int .i64 0, .int .i64 0]) ?_ 0 _ (by first | rfl | (simp only [gt_iff_lt, *]; rfl) | (simp [*]; done)); (with_reducible repeat (first | refine blk_drewN ?_ _ | refine blk_drew ?_ | refine blk_alloc ?_ _)); exact BK406.out⟩
                  have n1_ : Aside0 (Below w.heap.size w (((((((w9.setCell ⟨gb406, 0, none⟩ (.int .i64 ((rd_T62 l0 x7_1).f0))).setCell ⟨gb406, 1, none⟩ (.int .i64 ((rd_T62 l0 x7_1).f1))).setCell ⟨gb406, 2, none⟩ (.int .i64 ((rd_T62 l0 x7_1).f2))).setCell ⟨gb406, 3, none⟩ (.int .i64 ((rd_T62 l0 x7_1).f3.f0))).setCell ⟨gb406, 4, none⟩ (.int .i64 ((rd_T62 l0 x7_1).f3.f1))).setCell ⟨gb406, 5, none⟩ (.int .i64 ((rd_T62 l0 x7_1).f3.f2))).setCell ⟨gb406, 6, none⟩ (.int .i64 ((rd_T62 l0 x7_1).f4)))) := ⟨by repeat (first | (with_reducible first | exact HB.out | apply below_alloc | apply pw_below_drewN | apply below_drew1 | refine below_set ?_ GE406.out) | exact HB.out)⟩
                  (try clear BK406)
                  (try clear HB)
                  generalize (((((((w9.setCell ⟨gb406, 0, none⟩ (.int .i64 ((rd_T62 l0 x7_1).f0))).setCell ⟨gb406, 1, none⟩ (.int .i64 ((rd_T62 l0 x7_1).f1))).setCell ⟨gb406, 2, none⟩ (.int .i64 ((rd_T62 l0 x7_1).f2))).setCell ⟨gb406, 3, none⟩ (.int .i64 ((rd_T62 l0 x7_1).f3.f0))).setCell ⟨gb406, 4, none⟩ (.int .i64 ((rd_T62 l0 x7_1).f3.f1))).setCell ⟨gb406, 5, none⟩ (.int .i64 ((rd_T62 l0 x7_1).f3.f2))).setCell ⟨gb406, 6, none⟩ (.int .i64 ((rd_T62 l0 x7_1).f4))) = w11 at n0_ n1_ ⊢
                  have BK406 := n0_
                  have HB := n1_
                  clear n0_ n1_
                  have n0_ := Aside0.mk (blk_drew BK406.out)
                  have n1_ := Aside0.mk (below_drew1 HB.out)
                  clear BK406
                  clear HB
                  have BK406 := n0_
                  have HB := n1_
                  clear n0_ n1_
                  have p408 : 0 ≤ (0 : Int) := (by omega)
                  have q408 : 0 < (l0.length : Int) := of_decide_eq_true (by first | (with_reducible assumption) | assumption)
                  obtain ⟨ad408, e408, hx408_0, hx408_1, hx408_2, hx408_3, hx408_4, hx408_5, hx408_6⟩ := at_T62 HR0.out 0 p408 q408
                  have hw408_6 := hx408_6
                  (try rw [show ((0 : Int)).toNat = 0 from rfl] at hw408_6)
                  (try rw [show 0 * 7 = 0 from rfl] at hw408_6)
                  (try rw [Addr.add_zero'] at hw408_6)
                  have hw408_5 := hx408_5
                  (try rw [show ((0 : Int)).toNat = 0 from rfl] at hw408_5)
                  (try rw [show 0 * 7 = 0 from rfl] at hw408_5)
                  (try rw [Addr.add_zero'] at hw408_5)
                  have hw408_4 := hx408_4
                  (try rw [show ((0 : Int)).toNat = 0 from rfl] at hw408_4)
                  (try rw [show 0 * 7 = 0 from rfl] at hw408_4)
                  (try rw [Addr.add_zero'] at hw408_4)
                  have hw408_3 := hx408_3
                  (try rw [show ((0 : Int)).toNat = 0 from rfl] at hw408_3)
                  (try rw [show 0 * 7 = 0 from rfl] at hw408_3)
                  (try rw [Addr.add_zero'] at hw408_3)
                  have hw408_2 := hx408_2
                  (try rw [show ((0 : Int)).toNat = 0 from rfl] at hw408_2)
                  (try rw [show 0 * 7 = 0 from rfl] at hw408_2)
                  (try rw [Addr.add_zero'] at hw408_2)
                  have hw408_1 := hx408_1
                  (try rw [show ((0 : Int)).toNat = 0 from rfl] at hw408_1)
                  (try rw [show 0 * 7 = 0 from rfl] at hw408_1)
                  (try rw [Addr.add_zero'] at hw408_1)
                  have hw408_0 := hx408_0
                  (try rw [show ((0 : Int)).toNat = 0 from rfl] at hw408_0)
                  (try rw [show 0 * 7 = 0 from rfl] at hw408_0)
                  (try rw [Addr.add_zero'] at hw408_0)
                  obtain rfl : ad405 = ad408 := (by injection e408)
                  have qi408 : (0 < l0.length) = True := eq_true (by omega)
                  (try rw [show ((0 : Int)).toNat = 0 from rfl] at hx408_0)
                  (try rw [show 0 * 7 = 0 from rfl] at hx408_0)
                  (try rw [Addr.add_zero'] at hx408_0)
                  (try rw [show ((0 : Int)).toNat = 0 from rfl] at hx408_1)
                  (try rw [show 0 * 7 = 0 from rfl] at hx408_1)
                  (try rw [Addr.add_zero'] at hx408_1)
                  (try rw [show ((0 : Int)).toNat = 0 from rfl] at hx408_2)
                  (try rw [show 0 * 7 = 0 from rfl] at hx408_2)
                  (try rw [Addr.add_zero'] at hx408_2)
                  (try rw [show ((0 : Int)).toNat = 0 from rfl] at hx408_3)
                  (try rw [show 0 * 7 = 0 from rfl] at hx408_3)
                  (try rw [Addr.add_zero'] at hx408_3)
                  (try rw [show ((0 : Int)).toNat = 0 from rfl] at hx408_4)
                  (try rw [show 0 * 7 = 0 from rfl] at hx408_4)
                  (try rw [Addr.add_zero'] at hx408_4)
                  (try rw [show ((0 : Int)).toNat = 0 from rfl] at hx408_5)
                  (try rw [show 0 * 7 = 0 from rfl] at hx408_5)
                  (try rw [Addr.add_zero'] at hx408_5)
                  (try rw [show ((0 : Int)).toNat = 0 from rfl] at hx408_6)
                  (try rw [show 0 * 7 = 0 from rfl] at hx408_6)
                  (try rw [Addr.add_zero'] at hx408_6)
                  replace hx408_0 := (HB.out.cell (World.block_lt_of_cell? w _ hx408_0)).trans hx408_0
                  replace hx408_1 := (HB.out.cell (World.block_lt_of_cell? w _ hx408_1)).trans hx408_1
                  replace hx408_2 := (HB.out.cell (World.block_lt_of_cell? w _ hx408_2)).trans hx408_2
                  replace hx408_3 := (HB.out.cell (World.block_lt_of_cell? w _ hx408_3)).trans hx408_3
                  replace hx408_4 := (HB.out.cell (World.block_lt_of_cell? w _ hx408_4)).trans hx408_4
                  replace hx408_5 := (HB.out.cell (World.block_lt_of_cell? w _ hx408_5)).trans hx408_5
                  replace hx408_6 := (HB.out.cell (World.block_lt_of_cell? w _ hx408_6)).trans hx408_6
                  replace p408 := eq_true p408
                  replace q408 := eq_true q408
                  refine start_ (n := 14) (S := fun w' => w'.cell? ⟨gb406, 0, none⟩ = some (.int .i64 ((rd_T62 l0 x7_1).f0)) ∧ w'.cell? ⟨gb406, 1, none⟩ = some (.int .i64 ((rd_T62 l0 x7_1).f1)) ∧ w'.cell? ⟨gb406, 2, none⟩ = some (.int .i64 ((rd_T62 l0 x7_1).f2)) ∧ w'.cell? ⟨gb406, 3, none⟩ = some (.int .i64 ((rd_T62 l0 x7_1).f3.f0)) ∧ w'.cell? ⟨gb406, 4, none⟩ = some (.int .i64 ((rd_T62 l0 x7_1).f3.f1)) ∧ w'.cell? ⟨gb406, 5, none⟩ = some (.int .i64 ((rd_T62 l0 x7_1).f3.f2)) ∧ w'.cell? ⟨gb406, 6, none⟩ = some (.int .i64 ((rd_T62 l0 x7_1).f4)) ∧ w'.cell? ad405 = some (.int .i64 ((rd_T62 l0 0).f0)) ∧ w'.cell? ⟨ad405.block, ad405.off + 1, none⟩ = some (.int .i64 ((rd_T62 l0 0).f1)) ∧ w'.cell? ⟨ad405.block, ad405.off + 2, none⟩ = some (.int .i64 ((rd_T62 l0 0).f2)) ∧ w'.cell? ⟨ad405.block, ad405.off + 3, none⟩ = some (.int .i64 ((rd_T62 l0 0).f3.f0)) ∧ w'.cell? ⟨ad405.block, ad405.off + 4, none⟩ = some (.int .i64 ((rd_T62 l0 0).f3.f1)) ∧ w'.cell? ⟨ad405.block, ad405.off + 5, none⟩ = some (.int .i64 ((rd_T62 l0 0).f3.f2)) ∧ w'.cell? ⟨ad405.block, ad405.off + 6, none⟩ = some (.int .i64 ((rd_T62 l0 0).f4))) (ds := []) #[false, false, false, false, false, false, false, false, false, false, false, false, false, false] (by kernel_rfl) rfl rfl ⟨(blk_cell BK406.out 0).trans rfl, (blk_cell BK406.out 1).trans rfl, (blk_cell BK406.out 2).trans rfl, (blk_cell BK406.out 3).trans rfl, (blk_cell BK406.out 4).trans rfl, (blk_cell BK406.out 5).trans rfl, (blk_cell BK406.out 6).trans rfl, ((HB.out.cell (World.block_lt_of_cell? w _ hw408_0)).trans hw408_0), ((HB.out.cell (World.block_lt_of_cell? w _ hw408_1)).trans hw408_1), ((HB.out.cell (World.block_lt_of_cell? w _ hw408_2)).trans hw408_2), ((HB.out.cell (World.block_lt_of_cell? w _ hw408_3)).trans hw408_3), ((HB.out.cell (World.block_lt_of_cell? w _ hw408_4)).trans hw408_4), ((HB.out.cell (World.block_lt_of_cell? w _ hw408_5)).trans hw408_5), ((HB.out.cell (World.block_lt_of_cell? w _ hw408_6)).trans hw408_6)⟩ (fun hHeld => ?_); refine with_tabW block_Fits.tab4 block_Fits.bits4 (fun HT_ HW_ => ?_)
                  generalize w11.drew = w12 at BK406 HB hx408_0 hx408_1 hx408_2 hx408_3 hx408_4 hx408_5 hx408_6 hHeld ⊢
                  refine take_ (i := 0) (N := some 12) (v := ?_) (a' := ?_) #[true, false, false, false, false, false, false, false, false, false, false, false, false, false] rfl rfl (take_ofW HT_.out HW_.out (by kernel_rfl)) (fun _ _ _ h => h) (Or.inl ⟨by rfl, ?_⟩) hHeld ?_ ?_
                  rotate_left
                  · rintro w' ⟨s0, s1, s2, s3, s4, s5, s6, s7, s8, s9, s10, s11, s12, s13⟩
                    go_simp
                    with_reducible rfl
                  rotate_left
                  · simp only [Act.put, List.setIfInBounds_toArray, List.set_cons_zero, List.set_cons_succ, i64_w, i32_w]
                    rfl
                  refine one_ (i := 1) (N := some 13) #[true, true, false, false, false, false, false, false, false, false, false, false, false, false] rfl rfl (one_of HT_.out (by kernel_rfl)) (by decide) (fun K hK => ?_)
                  refine goes_ Tryz.func43 (by kernel_rfl) rfl #[.agg #[.int .i64 ((rd_T62 l0 x7_1).f0), .int .i64 ((rd_T62 l0 x7_1).f1), .int .i64 ((rd_T62 l0 x7_1).f2), .int .i64 ((rd_T62 l0 x7_1).f3.f0), .int .i64 ((rd_T62 l0 x7_1).f3.f1), .int .i64 ((rd_T62 l0 x7_1).f3.f2), .int .i64 ((rd_T62 l0 x7_1).f4)]] (by rfl) rfl rfl (by (try simp only [List.map_toArray, List.map_cons, List.map_nil]); first | done | rfl | (simp only [List.length_drop, List.length_take]; rfl)) ?_
                  with_reducible refine (schema_Fits.calls ((rd_T62 l0 x7_1).f0) ((rd_T62 l0 x7_1).f1) ((rd_T62 l0 x7_1).f2) ((rd_T62 l0 x7_1).f3.f0) ((rd_T62 l0 x7_1).f3.f1) ((rd_T62 l0 x7_1).f3.f2) ((rd_T62 l0 x7_1).f4) true _ A5.out).mono ?_
                  rintro e w13 ⟨rfl, hb⟩
                  refine ⟨_, rfl, ?_⟩
                  have n0_ := Aside0.mk (blk_below (g := gb406) (o := .cells #[.int .i64 ((rd_T62 l0 x7_1).f0), .int .i64 ((rd_T62 l0 x7_1).f1), .int .i64 ((rd_T62 l0 x7_1).f2), .int .i64 ((rd_T62 l0 x7_1).f3.f0), .int .i64 ((rd_T62 l0 x7_1).f3.f1), .int .i64 ((rd_T62 l0 x7_1).f3.f2), .int .i64 ((rd_T62 l0 x7_1).f4)] 62 (0, 0)) (by (with_reducible repeat (first | refine blk_drewN ?_ _ | refine blk_drew ?_ | refine blk_alloc ?_ _)); exact BK406.out) hb)
                  have n1_ := Aside0.mk (below_step (by repeat (first | (with_reducible first | exact HB.out | apply below_alloc | apply pw_below_drewN | apply below_drew1 | refine below_set ?_ GE406.out) | exact HB.out)) hb)
                  clear BK406
                  clear HB
                  have BK406 := n0_
                  have HB := n1_
                  clear n0_ n1_
                  (try clear hb)
                  (try clear hb2)
                  (try clear hk)
                  (try clear hi)
                  refine hK.out _ _ ⟨(blk_cell BK406.out 0).trans rfl, (blk_cell BK406.out 1).trans rfl, (blk_cell BK406.out 2).trans rfl, (blk_cell BK406.out 3).trans rfl, (blk_cell BK406.out 4).trans rfl, (blk_cell BK406.out 5).trans rfl, (blk_cell BK406.out 6).trans rfl, ((HB.out.cell (World.block_lt_of_cell? w _ hw408_0)).trans hw408_0), ((HB.out.cell (World.block_lt_of_cell? w _ hw408_1)).trans hw408_1), ((HB.out.cell (World.block_lt_of_cell? w _ hw408_2)).trans hw408_2), ((HB.out.cell (World.block_lt_of_cell? w _ hw408_3)).trans hw408_3), ((HB.out.cell (World.block_lt_of_cell? w _ hw408_4)).trans hw408_4), ((HB.out.cell (World.block_lt_of_cell? w _ hw408_5)).trans hw408_5), ((HB.out.cell (World.block_lt_of_cell? w _ hw408_6)).trans hw408_6)⟩ (fun hHeld => ?_)
                  clear hK K
                  refine norm_ (a' := ?_) ?_ ?_
                  rotate_left
                  · show Act.put _ (some 13) _ = _
                    simp only [Act.put, List.setIfInBounds_toArray, List.set_cons_zero, List.set_cons_succ, i64_w, i32_w]
                    rfl
                  refine pure_ (i := 2) (N := some 14) (v := ?_) (a' := ?_) #[true, true, true, false, false, false, false, false, false, false, false, false, false, false] rfl rfl (any_of HT_.out (by kernel_rfl)) (fun _ _ _ h => h) (Or.inl ⟨by rfl, ?_⟩) ?_ ?_
                  rotate_left
                  · intro w'
                    go_simp
                    with_reducible rfl
                  rotate_left
                  · simp only [Act.put, List.setIfInBounds_toArray, List.set_cons_zero, List.set_cons_succ, i64_w, i32_w]
                    rfl
                  refine pure_ (i := 3) (N := some 15) (v := ?_) (a' := ?_) #[true, true, true, true, false, false, false, false, false, false, false, false, false, false] rfl rfl (any_of HT_.out (by kernel_rfl)) (fun _ _ _ h => h) (Or.inl ⟨by rfl, ?_⟩) ?_ ?_
                  rotate_left
                  · intro w'
                    go_simp
                    with_reducible rfl
                  rotate_left
                  · simp only [Act.put, List.setIfInBounds_toArray, List.set_cons_zero, List.set_cons_succ, i64_w, i32_w]
                    rfl
                  refine pure_ (i := 4) (N := some 16) (v := ?_) (a' := ?_) #[true, true, true, true, true, false, false, false, false, false, false, false, false, false] rfl rfl (any_of HT_.out (by kernel_rfl)) (fun _ _ _ h => h) (Or.inl ⟨by rfl, ?_⟩) ?_ ?_
                  rotate_left
                  · intro w'
                    go_simp
                    with_reducible rfl
                  rotate_left
                  · simp only [Act.put, List.setIfInBounds_toArray, List.set_cons_zero, List.set_cons_succ, i64_w, i32_w]
                    rfl
                  refine pure_ (i := 6) (N := some 18) (v := ?_) (a' := ?_) #[true, true, true, true, true, false, true, false, false, false, false, false, false, false] rfl rfl (any_of HT_.out (by kernel_rfl)) (fun _ _ _ h => h) (Or.inl ⟨by rfl, ?_⟩) ?_ ?_
                  rotate_left
                  · intro w'
                    go_simp
                    with_reducible rfl
                  rotate_left
                  · simp only [Act.put, List.setIfInBounds_toArray, List.set_cons_zero, List.set_cons_succ, i64_w, i32_w]
                    rfl
                  refine pure_ (i := 7) (N := some 19) (v := ?_) (a' := ?_) #[true, true, true, true, true, false, true, true, false, false, false, false, false, false] rfl rfl (any_of HT_.out (by kernel_rfl)) (fun _ _ _ h => h) (Or.inl ⟨by rfl, ?_⟩) ?_ ?_
                  rotate_left
                  · intro w'
                    go_simp
                    with_reducible rfl
                  rotate_left
                  · simp only [Act.put, List.setIfInBounds_toArray, List.set_cons_zero, List.set_cons_succ, i64_w, i32_w]
                    rfl
                  refine pure_ (i := 8) (N := some 20) (v := ?_) (a' := ?_) #[true, true, true, true, true, false, true, true, true, false, false, false, false, false] rfl rfl (any_of HT_.out (by kernel_rfl)) (fun _ _ _ h => h) (Or.inl ⟨by rfl, ?_⟩) ?_ ?_
                  rotate_left
                  · intro w'
                    go_simp
                    with_reducible rfl
                  rotate_left
                  · simp only [Act.put, List.setIfInBounds_toArray, List.set_cons_zero, List.set_cons_succ, i64_w, i32_w]
                    rfl
                  refine pure_ (i := 10) (N := some 22) (v := ?_) (a' := ?_) #[true, true, true, true, true, false, true, true, true, false, true, false, false, false] rfl rfl (any_of HT_.out (by kernel_rfl)) (fun _ _ _ h => h) (Or.inl ⟨by rfl, ?_⟩) ?_ ?_
                  rotate_left
                  · intro w'
                    go_simp
                    with_reducible rfl
                  rotate_left
                  · simp only [Act.put, List.setIfInBounds_toArray, List.set_cons_zero, List.set_cons_succ, i64_w, i32_w]
                    rfl
                  refine take_ (i := 5) (N := some 17) (v := ?_) (a' := ?_) #[true, true, true, true, true, true, true, true, true, false, true, false, false, false] rfl rfl (take_ofW HT_.out HW_.out (by kernel_rfl)) (fun _ _ _ h => h) (Or.inl ⟨by rfl, ?_⟩) hHeld ?_ ?_
                  rotate_left
                  · rintro w' ⟨s0, s1, s2, s3, s4, s5, s6, s7, s8, s9, s10, s11, s12, s13⟩
                    go_simp
                    with_reducible rfl
                  rotate_left
                  · simp only [Act.put, List.setIfInBounds_toArray, List.set_cons_zero, List.set_cons_succ, i64_w, i32_w]
                    rfl
                  refine take_ (i := 9) (N := some 21) (v := ?_) (a' := ?_) #[true, true, true, true, true, true, true, true, true, true, true, false, false, false] rfl rfl (take_ofW HT_.out HW_.out (by kernel_rfl)) (fun _ _ _ h => h) (Or.inl ⟨by rfl, ?_⟩) hHeld ?_ ?_
                  rotate_left
                  · rintro w' ⟨s0, s1, s2, s3, s4, s5, s6, s7, s8, s9, s10, s11, s12, s13⟩
                    go_simp
                    with_reducible rfl
                  rotate_left
                  · simp only [Act.put, List.setIfInBounds_toArray, List.set_cons_zero, List.set_cons_succ, i64_w, i32_w]
                    rfl
                  refine pure_ (i := 11) (N := some 23) (v := ?_) (a' := ?_) #[true, true, true, true, true, true, true, true, true, true, true, true, false, false] rfl rfl (any_of HT_.out (by kernel_rfl)) (fun _ _ _ h => h) (Or.inl ⟨by rfl, ?_⟩) ?_ ?_
                  rotate_left
                  · intro w'
                    go_simp
                    with_reducible rfl
                  rotate_left
                  · simp only [Act.put, List.setIfInBounds_toArray, List.set_cons_zero, List.set_cons_succ, i64_w, i32_w]
                    rfl
                  refine pure_ (i := 12) (N := some 24) (v := ?_) (a' := ?_) #[true, true, true, true, true, true, true, true, true, true, true, true, true, false] rfl rfl (any_of HT_.out (by kernel_rfl)) (fun _ _ _ h => h) (Or.inl ⟨by rfl, ?_⟩) ?_ ?_
                  rotate_left
                  · intro w'
                    go_simp
                    with_reducible rfl
                  rotate_left
                  · simp only [Act.put, List.setIfInBounds_toArray, List.set_cons_zero, List.set_cons_succ, i64_w, i32_w]
                    rfl
                  refine pure_ (i := 13) (N := some 25) (v := ?_) (a' := ?_) #[true, true, true, true, true, true, true, true, true, true, true, true, true, true] rfl rfl (any_of HT_.out (by kernel_rfl)) (fun _ _ _ h => h) (Or.inl ⟨by rfl, ?_⟩) ?_ ?_
                  rotate_left
                  · intro w'
                    go_simp
                    with_reducible rfl
                  rotate_left
                  · simp only [Act.put, List.setIfInBounds_toArray, List.set_cons_zero, List.set_cons_succ, i64_w, i32_w]
                    rfl
                  refine done_ (done_of HT_.out (by kernel_rfl)) ?_
                  try go_wp2
                  go_roundg k1
                  case measure => have := HK1.out; omega
                  case rel => exact ⟨(wrap64 (x7_1 + 1)), (by first | rfl | (simp; done) | (simp [*]; done)), H', ⟨by have := HK1.out; omega⟩, ⟨by repeat (first | (with_reducible first | exact HB.out | apply below_alloc | apply pw_below_drewN | apply below_drew1 | refine below_set ?_ GE406.out) | exact HB.out)⟩⟩
                · rw [if_neg c8] at H
                  have c8b0 : (((rd_T62 l0 x7_1).f0) == (wrap64 (((rd_T62 l0 0).f0) + x7_1))) = false := beq_eq_false_iff_ne.mpr c8
                  have c8b1 : (((rd_T62 l0 x7_1).f0) != (wrap64 (((rd_T62 l0 0).f0) + x7_1))) = true := bne_iff_ne.mpr c8
                  obtain rfl := Option.some.inj H
                  have p405 : 0 ≤ (x7_1 : Int) := of_decide_eq_true (by first | (with_reducible assumption) | assumption)
                  have q405 : x7_1 < (l0.length : Int) := of_decide_eq_true (by first | (with_reducible assumption) | assumption)
                  obtain ⟨ad405, e405, hx405_0, hx405_1, hx405_2, hx405_3, hx405_4, hx405_5, hx405_6⟩ := at_T62 HR0.out x7_1 p405 q405
                  cases e405
                  replace hx405_0 := (HB.out.cell (World.block_lt_of_cell? w _ hx405_0)).trans hx405_0
                  replace hx405_1 := (HB.out.cell (World.block_lt_of_cell? w _ hx405_1)).trans hx405_1
                  replace hx405_2 := (HB.out.cell (World.block_lt_of_cell? w _ hx405_2)).trans hx405_2
                  replace hx405_3 := (HB.out.cell (World.block_lt_of_cell? w _ hx405_3)).trans hx405_3
                  replace hx405_4 := (HB.out.cell (World.block_lt_of_cell? w _ hx405_4)).trans hx405_4
                  replace hx405_5 := (HB.out.cell (World.block_lt_of_cell? w _ hx405_5)).trans hx405_5
                  replace hx405_6 := (HB.out.cell (World.block_lt_of_cell? w _ hx405_6)).trans hx405_6
                  replace p405 := eq_true p405
                  replace q405 := eq_true q405
                  try go_wp2_with (first | ((with_reducible refine gate_dst (N := 4) rfl ?_); (try (refine gate_guard (by rfl) ?_; dsimp only)); refine box_event ?hg (N := 4) ?hd (cs := #[.int .i64 0, .int .i64 0, .int .i64 0, .int .i64 0, .int .i64 0, .int .i64 0, .int .i64 0]) (t := 62) ?hr ?_; (case hd => rfl); (case hg => rfl); (case hr => first | (go_simp; done) | (go_simp; rfl)); intro gb406 hg w14 hbox hb; have n0_ := Aside0.mk (below_step (by repeat (first | (with_reducible first | exact HB.out | apply below_alloc | apply pw_below_drewN | apply below_drew1) | exact HB.out)) hb); have n1_ := Aside0.mk (hbox); have n2_ := Aside0.mk ((by rw [hg]; exact (below_size (by repeat (first | (with_reducible first | exact HB.out | apply below_alloc | apply pw_below_drewN | apply below_drew1) | exact HB.out))) : w.heap.size ≤ gb406)); have n3_ := Aside0.mk ((by rw [hg]; exact (below_size (by repeat (first | (with_reducible first | exact HB.out | apply below_alloc | apply pw_below_drewN | apply below_drew1) | exact HB.out))) : w.heap.size ≤ gb406)); clear HB; have HB := n0_; have BK406 := n1_; have GW406 := n2_; have GE406 := n3_; clear n0_ n1_ n2_ n3_; clear hb hbox hg; have hcz15_0 : w14.cell? ⟨gb406, 0, none⟩ = some (.int .i64 0) := (blk_cell BK406.out 0).trans rfl; have hcz15_1 : w14.cell? ⟨gb406, 1, none⟩ = some (.int .i64 0) := (blk_cell BK406.out 1).trans rfl; have hcz15_2 : w14.cell? ⟨gb406, 2, none⟩ = some (.int .i64 0) := (blk_cell BK406.out 2).trans rfl; have hcz15_3 : w14.cell? ⟨gb406, 3, none⟩ = some (.int .i64 0) := (blk_cell BK406.out 3).trans rfl; have hcz15_4 : w14.cell? ⟨gb406, 4, none⟩ = some (.int .i64 0) := (blk_cell BK406.out 4).trans rfl; have hcz15_5 : w14.cell? ⟨gb406, 5, none⟩ = some (.int .i64 0) := (blk_cell BK406.out 5).trans rfl; have hcz15_6 : w14.cell? ⟨gb406, 6, none⟩ = some (.int .i64 0) := (blk_cell BK406.out 6).trans rfl; have hfz15_0 := blk_frozen BK406.out 0; have hfz15_1 := blk_frozen BK406.out 1; have hfz15_2 := blk_frozen BK406.out 2; have hfz15_3 := blk_frozen BK406.out 3; have hfz15_4 := blk_frozen BK406.out 4; have hfz15_5 := blk_frozen BK406.out 5; have hfz15_6 := blk_frozen BK406.out 6))
                  have n0_ : Aside0 ((((((((w14.setCell ⟨gb406, 0, none⟩ (.int .i64 ((rd_T62 l0 x7_1).f0))).setCell ⟨gb406, 1, none⟩ (.int .i64 ((rd_T62 l0 x7_1).f1))).setCell ⟨gb406, 2, none⟩ (.int .i64 ((rd_T62 l0 x7_1).f2))).setCell ⟨gb406, 3, none⟩ (.int .i64 ((rd_T62 l0 x7_1).f3.f0))).setCell ⟨gb406, 4, none⟩ (.int .i64 ((rd_T62 l0 x7_1).f3.f1))).setCell ⟨gb406, 5, none⟩ (.int .i64 ((rd_T62 l0 x7_1).f3.f2))).setCell ⟨gb406, 6, none⟩ (.int .i64 ((rd_T62 l0 x7_1).f4))).heap[gb406]? = some (.cells #[.int .i64 ((rd_T62 l0 x7_1).f0), .int .i64 ((rd_T62 l0 x7_1).f1), .int .i64 ((rd_T62 l0 x7_1).f2), .int .i64 ((rd_T62 l0 x7_1).f3.f0), .int .i64 ((rd_T62 l0 x7_1).f3.f1), .int .i64 ((rd_T62 l0 x7_1).f3.f2), .int .i64 ((rd_T62 l0 x7_1).f4)] 62 (0, 0))) := ⟨by (with_reducible repeat (first | refine blk_drewN ?_ _ | refine blk_drew ?_ | refine blk_alloc ?_ _)); refine blk_put (cs := #[.int .i64 ((rd_T62 l0 x7_1).f0), .int .i64 ((rd_T62 l0 x7_1).f1), .int .i64 ((rd_T62 l0 x7_1).f2), .int .i64 ((rd_T62 l0 x7_1).f3.f0), .int .i64 ((rd_T62 l0 x7_1).f3.f1), .int .i64 ((rd_T62 l0 x7_1).f3.f2), .int .i64 0]) ?_ 6 _ (by first | rfl | (simp only [gt_iff_lt, *]; rfl) | (simp [*]; done)); (with_reducible repeat (first | refine blk_drewN ?_ _ | refine blk_drew ?_ | refine blk_alloc ?_ _)); refine blk_put (cs := #[.int .i64 ((rd_T62 l0 x7_1).f0), .int .i64 ((rd_T62 l0 x7_1).f1), .int .i64 ((rd_T62 l0 x7_1).f2), .int .i64 ((rd_T62 l0 x7_1).f3.f0), .int .i64 ((rd_T62 l0 x7_1).f3.f1), .int .i64 0, .int .i64 0]) ?_ 5 _ (by first | rfl | (simp only [gt_iff_lt, *]; rfl) | (simp [*]; done)); (with_reducible repeat (first | refine blk_drewN ?_ _ | refine blk_drew ?_ | refine blk_alloc ?_ _)); refine blk_put (cs := #[.int .i64 ((rd_T62 l0 x7_1).f0), .int .i64 ((rd_T62 l0 x7_1).f1), .int .i64 ((rd_T62 l0 x7_1).f2), .int .i64 ((rd_T62 l0 x7_1).f3.f0), .int .i64 0, .int .i64 0, .int .i64 0]) ?_ 4 _ (by first | rfl | (simp only [gt_iff_lt, *]; rfl) | (simp [*]; done)); (with_reducible repeat (first | refine blk_drewN ?_ _ | refine blk_drew ?_ | refine blk_alloc ?_ _)); refine blk_put (cs := #[.int .i64 ((rd_T62 l0 x7_1).f0), .int .i64 ((rd_T62 l0 x7_1).f1), .int .i64 ((rd_T62 l0 x7_1).f2), .int .i64 0, .int .i64 0, .int .i64 0, .int .i64 0]) ?_ 3 _ (by first | rfl | (simp only [gt_iff_lt, *]; rfl) | (simp [*]; done)); (with_reducible repeat (first | refine blk_drewN ?_ _ | refine blk_drew ?_ | refine blk_alloc ?_ _)); refine blk_put (cs := #[.int .i64 ((rd_T62 l0 x7_1).f0), .int .i64 ((rd_T62 l0 x7_1).f1), .int .i64 0, .int .i64 0, .int .i64 0, .int .i64 0, .int .i64 0]) ?_ 2 _ (by first | rfl | (simp only [gt_iff_lt, *]; rfl) | (simp [*]; done)); (with_reducible repeat (first | refine blk_drewN ?_ _ | refine blk_drew ?_ | refine blk_alloc ?_ _)); refine blk_put (cs := #[.int .i64 ((rd_T62 l0 x7_1).f0), .int .i64 0, .int .i64 0, .int .i64 0, .int .i64 0, .int .i64 0, .int .i64 0]) ?_ 1 _ (by first | rfl | (simp only [gt_iff_lt, *]; rfl) | (simp [*]; done)); (with_reducible repeat (first | refine blk_drewN ?_ _ | refine blk_drew ?_ | refine blk_alloc ?_ _)); refine blk_put (cs := #[.int .i64 0, .int .i64 0, .int .i64 0, .int .i64 0, .int .i64 0, .int .i64 0, .int .i64 0]) ?_ 0 _ (by first | rfl | (simp only [gt_iff_lt, *]; rfl) | (simp [*]; done)); (with_reducible repeat (first | refine blk_drewN ?_ _ | refine blk_drew ?_ | refine blk_alloc ?_ _)); exact BK406.out⟩
                  have n1_ : Aside0 (Below w.heap.size w (((((((w14.setCell ⟨gb406, 0, none⟩ (.int .i64 ((rd_T62 l0 x7_1).f0))).setCell ⟨gb406, 1, none⟩ (.int .i64 ((rd_T62 l0 x7_1).f1))).setCell ⟨gb406, 2, none⟩ (.int .i64 ((rd_T62 l0 x7_1).f2))).setCell ⟨gb406, 3, none⟩ (.int .i64 ((rd_T62 l0 x7_1).f3.f0))).setCell ⟨gb406, 4, none⟩ (.int .i64 ((rd_T62 l0 x7_1).f3.f1))).setCell ⟨gb406, 5, none⟩ (.int .i64 ((rd_T62 l0 x7_1).f3.f2))).setCell ⟨gb406, 6, none⟩ (.int .i64 ((rd_T62 l0 x7_1).f4)))) := ⟨by repeat (first | (with_reducible first | exact HB.out | apply below_alloc | apply pw_below_drewN | apply below_drew1 | refine below_set ?_ GE406.out) | exact HB.out)⟩
                  (try clear BK406)
                  (try clear HB)
                  generalize (((((((w14.setCell ⟨gb406, 0, none⟩ (.int .i64 ((rd_T62 l0 x7_1).f0))).setCell ⟨gb406, 1, none⟩ (.int .i64 ((rd_T62 l0 x7_1).f1))).setCell ⟨gb406, 2, none⟩ (.int .i64 ((rd_T62 l0 x7_1).f2))).setCell ⟨gb406, 3, none⟩ (.int .i64 ((rd_T62 l0 x7_1).f3.f0))).setCell ⟨gb406, 4, none⟩ (.int .i64 ((rd_T62 l0 x7_1).f3.f1))).setCell ⟨gb406, 5, none⟩ (.int .i64 ((rd_T62 l0 x7_1).f3.f2))).setCell ⟨gb406, 6, none⟩ (.int .i64 ((rd_T62 l0 x7_1).f4))) = w16 at n0_ n1_ ⊢
                  have BK406 := n0_
                  have HB := n1_
                  clear n0_ n1_
                  have n0_ := Aside0.mk (blk_drew BK406.out)
                  have n1_ := Aside0.mk (below_drew1 HB.out)
                  clear BK406
                  clear HB
                  have BK406 := n0_
                  have HB := n1_
                  clear n0_ n1_
                  have p408 : 0 ≤ (0 : Int) := (by omega)
                  have q408 : 0 < (l0.length : Int) := of_decide_eq_true (by first | (with_reducible assumption) | assumption)
                  obtain ⟨ad408, e408, hx408_0, hx408_1, hx408_2, hx408_3, hx408_4, hx408_5, hx408_6⟩ := at_T62 HR0.out 0 p408 q408
                  have hw408_6 := hx408_6
                  (try rw [show ((0 : Int)).toNat = 0 from rfl] at hw408_6)
                  (try rw [show 0 * 7 = 0 from rfl] at hw408_6)
                  (try rw [Addr.add_zero'] at hw408_6)
                  have hw408_5 := hx408_5
                  (try rw [show ((0 : Int)).toNat = 0 from rfl] at hw408_5)
                  (try rw [show 0 * 7 = 0 from rfl] at hw408_5)
                  (try rw [Addr.add_zero'] at hw408_5)
                  have hw408_4 := hx408_4
                  (try rw [show ((0 : Int)).toNat = 0 from rfl] at hw408_4)
                  (try rw [show 0 * 7 = 0 from rfl] at hw408_4)
                  (try rw [Addr.add_zero'] at hw408_4)
                  have hw408_3 := hx408_3
                  (try rw [show ((0 : Int)).toNat = 0 from rfl] at hw408_3)
                  (try rw [show 0 * 7 = 0 from rfl] at hw408_3)
                  (try rw [Addr.add_zero'] at hw408_3)
                  have hw408_2 := hx408_2
                  (try rw [show ((0 : Int)).toNat = 0 from rfl] at hw408_2)
                  (try rw [show 0 * 7 = 0 from rfl] at hw408_2)
                  (try rw [Addr.add_zero'] at hw408_2)
                  have hw408_1 := hx408_1
                  (try rw [show ((0 : Int)).toNat = 0 from rfl] at hw408_1)
                  (try rw [show 0 * 7 = 0 from rfl] at hw408_1)
                  (try rw [Addr.add_zero'] at hw408_1)
                  have hw408_0 := hx408_0
                  (try rw [show ((0 : Int)).toNat = 0 from rfl] at hw408_0)
                  (try rw [show 0 * 7 = 0 from rfl] at hw408_0)
                  (try rw [Addr.add_zero'] at hw408_0)
                  obtain rfl : ad405 = ad408 := (by injection e408)
                  have qi408 : (0 < l0.length) = True := eq_true (by omega)
                  (try rw [show ((0 : Int)).toNat = 0 from rfl] at hx408_0)
                  (try rw [show 0 * 7 = 0 from rfl] at hx408_0)
                  (try rw [Addr.add_zero'] at hx408_0)
                  (try rw [show ((0 : Int)).toNat = 0 from rfl] at hx408_1)
                  (try rw [show 0 * 7 = 0 from rfl] at hx408_1)
                  (try rw [Addr.add_zero'] at hx408_1)
                  (try rw [show ((0 : Int)).toNat = 0 from rfl] at hx408_2)
                  (try rw [show 0 * 7 = 0 from rfl] at hx408_2)
                  (try rw [Addr.add_zero'] at hx408_2)
                  (try rw [show ((0 : Int)).toNat = 0 from rfl] at hx408_3)
                  (try rw [show 0 * 7 = 0 from rfl] at hx408_3)
                  (try rw [Addr.add_zero'] at hx408_3)
                  (try rw [show ((0 : Int)).toNat = 0 from rfl] at hx408_4)
                  (try rw [show 0 * 7 = 0 from rfl] at hx408_4)
                  (try rw [Addr.add_zero'] at hx408_4)
                  (try rw [show ((0 : Int)).toNat = 0 from rfl] at hx408_5)
                  (try rw [show 0 * 7 = 0 from rfl] at hx408_5)
                  (try rw [Addr.add_zero'] at hx408_5)
                  (try rw [show ((0 : Int)).toNat = 0 from rfl] at hx408_6)
                  (try rw [show 0 * 7 = 0 from rfl] at hx408_6)
                  (try rw [Addr.add_zero'] at hx408_6)
                  replace hx408_0 := (HB.out.cell (World.block_lt_of_cell? w _ hx408_0)).trans hx408_0
                  replace hx408_1 := (HB.out.cell (World.block_lt_of_cell? w _ hx408_1)).trans hx408_1
                  replace hx408_2 := (HB.out.cell (World.block_lt_of_cell? w _ hx408_2)).trans hx408_2
                  replace hx408_3 := (HB.out.cell (World.block_lt_of_cell? w _ hx408_3)).trans hx408_3
                  replace hx408_4 := (HB.out.cell (World.block_lt_of_cell? w _ hx408_4)).trans hx408_4
                  replace hx408_5 := (HB.out.cell (World.block_lt_of_cell? w _ hx408_5)).trans hx408_5
                  replace hx408_6 := (HB.out.cell (World.block_lt_of_cell? w _ hx408_6)).trans hx408_6
                  replace p408 := eq_true p408
                  replace q408 := eq_true q408
                  refine start_ (n := 14) (S := fun w' => w'.cell? ⟨gb406, 0, none⟩ = some (.int .i64 ((rd_T62 l0 x7_1).f0)) ∧ w'.cell? ⟨gb406, 1, none⟩ = some (.int .i64 ((rd_T62 l0 x7_1).f1)) ∧ w'.cell? ⟨gb406, 2, none⟩ = some (.int .i64 ((rd_T62 l0 x7_1).f2)) ∧ w'.cell? ⟨gb406, 3, none⟩ = some (.int .i64 ((rd_T62 l0 x7_1).f3.f0)) ∧ w'.cell? ⟨gb406, 4, none⟩ = some (.int .i64 ((rd_T62 l0 x7_1).f3.f1)) ∧ w'.cell? ⟨gb406, 5, none⟩ = some (.int .i64 ((rd_T62 l0 x7_1).f3.f2)) ∧ w'.cell? ⟨gb406, 6, none⟩ = some (.int .i64 ((rd_T62 l0 x7_1).f4)) ∧ w'.cell? ad405 = some (.int .i64 ((rd_T62 l0 0).f0)) ∧ w'.cell? ⟨ad405.block, ad405.off + 1, none⟩ = some (.int .i64 ((rd_T62 l0 0).f1)) ∧ w'.cell? ⟨ad405.block, ad405.off + 2, none⟩ = some (.int .i64 ((rd_T62 l0 0).f2)) ∧ w'.cell? ⟨ad405.block, ad405.off + 3, none⟩ = some (.int .i64 ((rd_T62 l0 0).f3.f0)) ∧ w'.cell? ⟨ad405.block, ad405.off + 4, none⟩ = some (.int .i64 ((rd_T62 l0 0).f3.f1)) ∧ w'.cell? ⟨ad405.block, ad405.off + 5, none⟩ = some (.int .i64 ((rd_T62 l0 0).f3.f2)) ∧ w'.cell? ⟨ad405.block, ad405.off + 6, none⟩ = some (.int .i64 ((rd_T62 l0 0).f4))) (ds := []) #[false, false, false, false, false, false, false, false, false, false, false, false, false, false] (by kernel_rfl) rfl rfl ⟨(blk_cell BK406.out 0).trans rfl, (blk_cell BK406.out 1).trans rfl, (blk_cell BK406.out 2).trans rfl, (blk_cell BK406.out 3).trans rfl, (blk_cell BK406.out 4).trans rfl, (blk_cell BK406.out 5).trans rfl, (blk_cell BK406.out 6).trans rfl, ((HB.out.cell (World.block_lt_of_cell? w _ hw408_0)).trans hw408_0), ((HB.out.cell (World.block_lt_of_cell? w _ hw408_1)).trans hw408_1), ((HB.out.cell (World.block_lt_of_cell? w _ hw408_2)).trans hw408_2), ((HB.out.cell (World.block_lt_of_cell? w _ hw408_3)).trans hw408_3), ((HB.out.cell (World.block_lt_of_cell? w _ hw408_4)).trans hw408_4), ((HB.out.cell (World.block_lt_of_cell? w _ hw408_5)).trans hw408_5), ((HB.out.cell (World.block_lt_of_cell? w _ hw408_6)).trans hw408_6)⟩ (fun hHeld => ?_); refine with_tabW block_Fits.tab4 block_Fits.bits4 (fun HT_ HW_ => ?_)
                  generalize w16.drew = w17 at BK406 HB hx408_0 hx408_1 hx408_2 hx408_3 hx408_4 hx408_5 hx408_6 hHeld ⊢
                  refine take_ (i := 0) (N := some 12) (v := ?_) (a' := ?_) #[true, false, false, false, false, false, false, false, false, false, false, false, false, false] rfl rfl (take_ofW HT_.out HW_.out (by kernel_rfl)) (fun _ _ _ h => h) (Or.inl ⟨by rfl, ?_⟩) hHeld ?_ ?_
                  rotate_left
                  · rintro w' ⟨s0, s1, s2, s3, s4, s5, s6, s7, s8, s9, s10, s11, s12, s13⟩
                    go_simp
                    with_reducible rfl
                  rotate_left
                  · simp only [Act.put, List.setIfInBounds_toArray, List.set_cons_zero, List.set_cons_succ, i64_w, i32_w]
                    rfl
                  refine one_ (i := 1) (N := some 13) #[true, true, false, false, false, false, false, false, false, false, false, false, false, false] rfl rfl (one_of HT_.out (by kernel_rfl)) (by decide) (fun K hK => ?_)
                  refine goes_ Tryz.func43 (by kernel_rfl) rfl #[.agg #[.int .i64 ((rd_T62 l0 x7_1).f0), .int .i64 ((rd_T62 l0 x7_1).f1), .int .i64 ((rd_T62 l0 x7_1).f2), .int .i64 ((rd_T62 l0 x7_1).f3.f0), .int .i64 ((rd_T62 l0 x7_1).f3.f1), .int .i64 ((rd_T62 l0 x7_1).f3.f2), .int .i64 ((rd_T62 l0 x7_1).f4)]] (by rfl) rfl rfl (by (try simp only [List.map_toArray, List.map_cons, List.map_nil]); first | done | rfl | (simp only [List.length_drop, List.length_take]; rfl)) ?_
                  with_reducible refine (schema_Fits.calls ((rd_T62 l0 x7_1).f0) ((rd_T62 l0 x7_1).f1) ((rd_T62 l0 x7_1).f2) ((rd_T62 l0 x7_1).f3.f0) ((rd_T62 l0 x7_1).f3.f1) ((rd_T62 l0 x7_1).f3.f2) ((rd_T62 l0 x7_1).f4) true _ A5.out).mono ?_
                  rintro e w18 ⟨rfl, hb⟩
                  refine ⟨_, rfl, ?_⟩
                  have n0_ := Aside0.mk (blk_below (g := gb406) (o := .cells #[.int .i64 ((rd_T62 l0 x7_1).f0), .int .i64 ((rd_T62 l0 x7_1).f1), .int .i64 ((rd_T62 l0 x7_1).f2), .int .i64 ((rd_T62 l0 x7_1).f3.f0), .int .i64 ((rd_T62 l0 x7_1).f3.f1), .int .i64 ((rd_T62 l0 x7_1).f3.f2), .int .i64 ((rd_T62 l0 x7_1).f4)] 62 (0, 0)) (by (with_reducible repeat (first | refine blk_drewN ?_ _ | refine blk_drew ?_ | refine blk_alloc ?_ _)); exact BK406.out) hb)
                  have n1_ := Aside0.mk (below_step (by repeat (first | (with_reducible first | exact HB.out | apply below_alloc | apply pw_below_drewN | apply below_drew1 | refine below_set ?_ GE406.out) | exact HB.out)) hb)
                  clear BK406
                  clear HB
                  have BK406 := n0_
                  have HB := n1_
                  clear n0_ n1_
                  (try clear hb)
                  (try clear hb2)
                  (try clear hk)
                  (try clear hi)
                  refine hK.out _ _ ⟨(blk_cell BK406.out 0).trans rfl, (blk_cell BK406.out 1).trans rfl, (blk_cell BK406.out 2).trans rfl, (blk_cell BK406.out 3).trans rfl, (blk_cell BK406.out 4).trans rfl, (blk_cell BK406.out 5).trans rfl, (blk_cell BK406.out 6).trans rfl, ((HB.out.cell (World.block_lt_of_cell? w _ hw408_0)).trans hw408_0), ((HB.out.cell (World.block_lt_of_cell? w _ hw408_1)).trans hw408_1), ((HB.out.cell (World.block_lt_of_cell? w _ hw408_2)).trans hw408_2), ((HB.out.cell (World.block_lt_of_cell? w _ hw408_3)).trans hw408_3), ((HB.out.cell (World.block_lt_of_cell? w _ hw408_4)).trans hw408_4), ((HB.out.cell (World.block_lt_of_cell? w _ hw408_5)).trans hw408_5), ((HB.out.cell (World.block_lt_of_cell? w _ hw408_6)).trans hw408_6)⟩ (fun hHeld => ?_)
                  clear hK K
                  refine norm_ (a' := ?_) ?_ ?_
                  rotate_left
                  · show Act.put _ (some 13) _ = _
                    simp only [Act.put, List.setIfInBounds_toArray, List.set_cons_zero, List.set_cons_succ, i64_w, i32_w]
                    rfl
                  refine pure_ (i := 2) (N := some 14) (v := ?_) (a' := ?_) #[true, true, true, false, false, false, false, false, false, false, false, false, false, false] rfl rfl (any_of HT_.out (by kernel_rfl)) (fun _ _ _ h => h) (Or.inl ⟨by rfl, ?_⟩) ?_ ?_
                  rotate_left
                  · intro w'
                    go_simp
                    with_reducible rfl
                  rotate_left
                  · simp only [Act.put, List.setIfInBounds_toArray, List.set_cons_zero, List.set_cons_succ, i64_w, i32_w]
                    rfl
                  refine pure_ (i := 3) (N := some 15) (v := ?_) (a' := ?_) #[true, true, true, true, false, false, false, false, false, false, false, false, false, false] rfl rfl (any_of HT_.out (by kernel_rfl)) (fun _ _ _ h => h) (Or.inl ⟨by rfl, ?_⟩) ?_ ?_
                  rotate_left
                  · intro w'
                    go_simp
                    with_reducible rfl
                  rotate_left
                  · simp only [Act.put, List.setIfInBounds_toArray, List.set_cons_zero, List.set_cons_succ, i64_w, i32_w]
                    rfl
                  refine pure_ (i := 4) (N := some 16) (v := ?_) (a' := ?_) #[true, true, true, true, true, false, false, false, false, false, false, false, false, false] rfl rfl (any_of HT_.out (by kernel_rfl)) (fun _ _ _ h => h) (Or.inl ⟨by rfl, ?_⟩) ?_ ?_
                  rotate_left
                  · intro w'
                    go_simp
                    with_reducible rfl
                  rotate_left
                  · simp only [Act.put, List.setIfInBounds_toArray, List.set_cons_zero, List.set_cons_succ, i64_w, i32_w]
                    rfl
                  refine pure_ (i := 6) (N := some 18) (v := ?_) (a' := ?_) #[true, true, true, true, true, false, true, false, false, false, false, false, false, false] rfl rfl (any_of HT_.out (by kernel_rfl)) (fun _ _ _ h => h) (Or.inl ⟨by rfl, ?_⟩) ?_ ?_
                  rotate_left
                  · intro w'
                    go_simp
                    with_reducible rfl
                  rotate_left
                  · simp only [Act.put, List.setIfInBounds_toArray, List.set_cons_zero, List.set_cons_succ, i64_w, i32_w]
                    rfl
                  refine pure_ (i := 7) (N := some 19) (v := ?_) (a' := ?_) #[true, true, true, true, true, false, true, true, false, false, false, false, false, false] rfl rfl (any_of HT_.out (by kernel_rfl)) (fun _ _ _ h => h) (Or.inl ⟨by rfl, ?_⟩) ?_ ?_
                  rotate_left
                  · intro w'
                    go_simp
                    with_reducible rfl
                  rotate_left
                  · simp only [Act.put, List.setIfInBounds_toArray, List.set_cons_zero, List.set_cons_succ, i64_w, i32_w]
                    rfl
                  refine pure_ (i := 8) (N := some 20) (v := ?_) (a' := ?_) #[true, true, true, true, true, false, true, true, true, false, false, false, false, false] rfl rfl (any_of HT_.out (by kernel_rfl)) (fun _ _ _ h => h) (Or.inl ⟨by rfl, ?_⟩) ?_ ?_
                  rotate_left
                  · intro w'
                    go_simp
                    with_reducible rfl
                  rotate_left
                  · simp only [Act.put, List.setIfInBounds_toArray, List.set_cons_zero, List.set_cons_succ, i64_w, i32_w]
                    rfl
                  refine pure_ (i := 10) (N := some 22) (v := ?_) (a' := ?_) #[true, true, true, true, true, false, true, true, true, false, true, false, false, false] rfl rfl (any_of HT_.out (by kernel_rfl)) (fun _ _ _ h => h) (Or.inl ⟨by rfl, ?_⟩) ?_ ?_
                  rotate_left
                  · intro w'
                    go_simp
                    with_reducible rfl
                  rotate_left
                  · simp only [Act.put, List.setIfInBounds_toArray, List.set_cons_zero, List.set_cons_succ, i64_w, i32_w]
                    rfl
                  refine take_ (i := 5) (N := some 17) (v := ?_) (a' := ?_) #[true, true, true, true, true, true, true, true, true, false, true, false, false, false] rfl rfl (take_ofW HT_.out HW_.out (by kernel_rfl)) (fun _ _ _ h => h) (Or.inl ⟨by rfl, ?_⟩) hHeld ?_ ?_
                  rotate_left
                  · rintro w' ⟨s0, s1, s2, s3, s4, s5, s6, s7, s8, s9, s10, s11, s12, s13⟩
                    go_simp
                    with_reducible rfl
                  rotate_left
                  · simp only [Act.put, List.setIfInBounds_toArray, List.set_cons_zero, List.set_cons_succ, i64_w, i32_w]
                    rfl
                  refine take_ (i := 9) (N := some 21) (v := ?_) (a' := ?_) #[true, true, true, true, true, true, true, true, true, true, true, false, false, false] rfl rfl (take_ofW HT_.out HW_.out (by kernel_rfl)) (fun _ _ _ h => h) (Or.inl ⟨by rfl, ?_⟩) hHeld ?_ ?_
                  rotate_left
                  · rintro w' ⟨s0, s1, s2, s3, s4, s5, s6, s7, s8, s9, s10, s11, s12, s13⟩
                    go_simp
                    with_reducible rfl
                  rotate_left
                  · simp only [Act.put, List.setIfInBounds_toArray, List.set_cons_zero, List.set_cons_succ, i64_w, i32_w]
                    rfl
                  refine pure_ (i := 11) (N := some 23) (v := ?_) (a' := ?_) #[true, true, true, true, true, true, true, true, true, true, true, true, false, false] rfl rfl (any_of HT_.out (by kernel_rfl)) (fun _ _ _ h => h) (Or.inl ⟨by rfl, ?_⟩) ?_ ?_
                  rotate_left
                  · intro w'
                    go_simp
                    with_reducible rfl
                  rotate_left
                  · simp only [Act.put, List.setIfInBounds_toArray, List.set_cons_zero, List.set_cons_succ, i64_w, i32_w]
                    rfl
                  refine pure_ (i := 12) (N := some 24) (v := ?_) (a' := ?_) #[true, true, true, true, true, true, true, true, true, true, true, true, true, false] rfl rfl (any_of HT_.out (by kernel_rfl)) (fun _ _ _ h => h) (Or.inl ⟨by rfl, ?_⟩) ?_ ?_
                  rotate_left
                  · intro w'
                    go_simp
                    with_reducible rfl
                  rotate_left
                  · simp only [Act.put, List.setIfInBounds_toArray, List.set_cons_zero, List.set_cons_succ, i64_w, i32_w]
                    rfl
                  refine pure_ (i := 13) (N := some 25) (v := ?_) (a' := ?_) #[true, true, true, true, true, true, true, true, true, true, true, true, true, true] rfl rfl (any_of HT_.out (by kernel_rfl)) (fun _ _ _ h => h) (Or.inl ⟨by rfl, ?_⟩) ?_ ?_
                  rotate_left
                  · intro w'
                    go_simp
                    with_reducible rfl
                  rotate_left
                  · simp only [Act.put, List.setIfInBounds_toArray, List.set_cons_zero, List.set_cons_succ, i64_w, i32_w]
                    rfl
                  refine done_ (done_of HT_.out (by kernel_rfl)) ?_
                  try go_wp2
                  go_ret
                  exact ⟨by first | rfl | (simp [errW_none, errW_some] <;> rfl) | (simp [*, errW_none, errW_some] <;> rfl), by repeat (first | (with_reducible first | exact HB.out | apply below_alloc | apply pw_below_drewN | apply below_drew1 | refine below_set ?_ GE406.out) | exact HB.out)⟩
              · rw [if_neg c7] at H
                exact absurd H (by simp)
            · replace c6 := Bool.eq_false_iff.mpr c6
              subst c6
              have H1 : (some false) = some r := by rw [if_neg (show ¬ (false = true) by decide)] at H; exact H
              clear H
              have H := H1
              clear H1
              obtain rfl := Option.some.inj H
              have p405 : 0 ≤ (x7_1 : Int) := of_decide_eq_true (by first | (with_reducible assumption) | assumption)
              have q405 : x7_1 < (l0.length : Int) := of_decide_eq_true (by first | (with_reducible assumption) | assumption)
              obtain ⟨ad405, e405, hx405_0, hx405_1, hx405_2, hx405_3, hx405_4, hx405_5, hx405_6⟩ := at_T62 HR0.out x7_1 p405 q405
              cases e405
              replace hx405_0 := (HB.out.cell (World.block_lt_of_cell? w _ hx405_0)).trans hx405_0
              replace hx405_1 := (HB.out.cell (World.block_lt_of_cell? w _ hx405_1)).trans hx405_1
              replace hx405_2 := (HB.out.cell (World.block_lt_of_cell? w _ hx405_2)).trans hx405_2
              replace hx405_3 := (HB.out.cell (World.block_lt_of_cell? w _ hx405_3)).trans hx405_3
              replace hx405_4 := (HB.out.cell (World.block_lt_of_cell? w _ hx405_4)).trans hx405_4
              replace hx405_5 := (HB.out.cell (World.block_lt_of_cell? w _ hx405_5)).trans hx405_5
              replace hx405_6 := (HB.out.cell (World.block_lt_of_cell? w _ hx405_6)).trans hx405_6
              replace p405 := eq_true p405
              replace q405 := eq_true q405
              try go_wp2_with (first | ((with_reducible refine gate_dst (N := 4) rfl ?_); (try (refine gate_guard (by rfl) ?_; dsimp only)); refine box_event ?hg (N := 4) ?hd (cs := #[.int .i64 0, .int .i64 0, .int .i64 0, .int .i64 0, .int .i64 0, .int .i64 0, .int .i64 0]) (t := 62) ?hr ?_; (case hd => rfl); (case hg => rfl); (case hr => first | (go_simp; done) | (go_simp; rfl)); intro gb406 hg w19 hbox hb; have n0_ := Aside0.mk (below_step (by repeat (first | (with_reducible first | exact HB.out | apply below_alloc | apply pw_below_drewN | apply below_drew1) | exact HB.out)) hb); have n1_ := Aside0.mk (hbox); have n2_ := Aside0.mk ((by rw [hg]; exact (below_size (by repeat (first | (with_reducible first | exact HB.out | apply below_alloc | apply pw_below_drewN | apply below_drew1) | exact HB.out))) : w.heap.size ≤ gb406)); have n3_ := Aside0.mk ((by rw [hg]; exact (below_size (by repeat (first | (with_reducible first | exact HB.out | apply below_alloc | apply pw_below_drewN | apply below_drew1) | exact HB.out))) : w.heap.size ≤ gb406)); clear HB; have HB := n0_; have BK406 := n1_; have GW406 := n2_; have GE406 := n3_; clear n0_ n1_ n2_ n3_; clear hb hbox hg; have hcz20_0 : w19.cell? ⟨gb406, 0, none⟩ = some (.int .i64 0) := (blk_cell BK406.out 0).trans rfl; have hcz20_1 : w19.cell? ⟨gb406, 1, none⟩ = some (.int .i64 0) := (blk_cell BK406.out 1).trans rfl; have hcz20_2 : w19.cell? ⟨gb406, 2, none⟩ = some (.int .i64 0) := (blk_cell BK406.out 2).trans rfl; have hcz20_3 : w19.cell? ⟨gb406, 3, none⟩ = some (.int .i64 0) := (blk_cell BK406.out 3).trans rfl; have hcz20_4 : w19.cell? ⟨gb406, 4, none⟩ = some (.int .i64 0) := (blk_cell BK406.out 4).trans rfl; have hcz20_5 : w19.cell? ⟨gb406, 5, none⟩ = some (.int .i64 0) := (blk_cell BK406.out 5).trans rfl; have hcz20_6 : w19.cell? ⟨gb406, 6, none⟩ = some (.int .i64 0) := (blk_cell BK406.out 6).trans rfl; have hfz20_0 := blk_frozen BK406.out 0; have hfz20_1 := blk_frozen BK406.out 1; have hfz20_2 := blk_frozen BK406.out 2; have hfz20_3 := blk_frozen BK406.out 3; have hfz20_4 := blk_frozen BK406.out 4; have hfz20_5 := blk_frozen BK406.out 5; have hfz20_6 := blk_frozen BK406.out 6))
              have n0_ : Aside0 ((((((((w19.setCell ⟨gb406, 0, none⟩ (.int .i64 ((rd_T62 l0 x7_1).f0))).setCell ⟨gb406, 1, none⟩ (.int .i64 ((rd_T62 l0 x7_1).f1))).setCell ⟨gb406, 2, none⟩ (.int .i64 ((rd_T62 l0 x7_1).f2))).setCell ⟨gb406, 3, none⟩ (.int .i64 ((rd_T62 l0 x7_1).f3.f0))).setCell ⟨gb406, 4, none⟩ (.int .i64 ((rd_T62 l0 x7_1).f3.f1))).setCell ⟨gb406, 5, none⟩ (.int .i64 ((rd_T62 l0 x7_1).f3.f2))).setCell ⟨gb406, 6, none⟩ (.int .i64 ((rd_T62 l0 x7_1).f4))).heap[gb406]? = some (.cells #[.int .i64 ((rd_T62 l0 x7_1).f0), .int .i64 ((rd_T62 l0 x7_1).f1), .int .i64 ((rd_T62 l0 x7_1).f2), .int .i64 ((rd_T62 l0 x7_1).f3.f0), .int .i64 ((rd_T62 l0 x7_1).f3.f1), .int .i64 ((rd_T62 l0 x7_1).f3.f2), .int .i64 ((rd_T62 l0 x7_1).f4)] 62 (0, 0))) := ⟨by (with_reducible repeat (first | refine blk_drewN ?_ _ | refine blk_drew ?_ | refine blk_alloc ?_ _)); refine blk_put (cs := #[.int .i64 ((rd_T62 l0 x7_1).f0), .int .i64 ((rd_T62 l0 x7_1).f1), .int .i64 ((rd_T62 l0 x7_1).f2), .int .i64 ((rd_T62 l0 x7_1).f3.f0), .int .i64 ((rd_T62 l0 x7_1).f3.f1), .int .i64 ((rd_T62 l0 x7_1).f3.f2), .int .i64 0]) ?_ 6 _ (by first | rfl | (simp only [gt_iff_lt, *]; rfl) | (simp [*]; done)); (with_reducible repeat (first | refine blk_drewN ?_ _ | refine blk_drew ?_ | refine blk_alloc ?_ _)); refine blk_put (cs := #[.int .i64 ((rd_T62 l0 x7_1).f0), .int .i64 ((rd_T62 l0 x7_1).f1), .int .i64 ((rd_T62 l0 x7_1).f2), .int .i64 ((rd_T62 l0 x7_1).f3.f0), .int .i64 ((rd_T62 l0 x7_1).f3.f1), .int .i64 0, .int .i64 0]) ?_ 5 _ (by first | rfl | (simp only [gt_iff_lt, *]; rfl) | (simp [*]; done)); (with_reducible repeat (first | refine blk_drewN ?_ _ | refine blk_drew ?_ | refine blk_alloc ?_ _)); refine blk_put (cs := #[.int .i64 ((rd_T62 l0 x7_1).f0), .int .i64 ((rd_T62 l0 x7_1).f1), .int .i64 ((rd_T62 l0 x7_1).f2), .int .i64 ((rd_T62 l0 x7_1).f3.f0), .int .i64 0, .int .i64 0, .int .i64 0]) ?_ 4 _ (by first | rfl | (simp only [gt_iff_lt, *]; rfl) | (simp [*]; done)); (with_reducible repeat (first | refine blk_drewN ?_ _ | refine blk_drew ?_ | refine blk_alloc ?_ _)); refine blk_put (cs := #[.int .i64 ((rd_T62 l0 x7_1).f0), .int .i64 ((rd_T62 l0 x7_1).f1), .int .i64 ((rd_T62 l0 x7_1).f2), .int .i64 0, .int .i64 0, .int .i64 0, .int .i64 0]) ?_ 3 _ (by first | rfl | (simp only [gt_iff_lt, *]; rfl) | (simp [*]; done)); (with_reducible repeat (first | refine blk_drewN ?_ _ | refine blk_drew ?_ | refine blk_alloc ?_ _)); refine blk_put (cs := #[.int .i64 ((rd_T62 l0 x7_1).f0), .int .i64 ((rd_T62 l0 x7_1).f1), .int .i64 0, .int .i64 0, .int .i64 0, .int .i64 0, .int .i64 0]) ?_ 2 _ (by first | rfl | (simp only [gt_iff_lt, *]; rfl) | (simp [*]; done)); (with_reducible repeat (first | refine blk_drewN ?_ _ | refine blk_drew ?_ | refine blk_alloc ?_ _)); refine blk_put (cs := #[.int .i64 ((rd_T62 l0 x7_1).f0), .int .i64 0, .int .i64 0, .int .i64 0, .int .i64 0, .int .i64 0, .int .i64 0]) ?_ 1 _ (by first | rfl | (simp only [gt_iff_lt, *]; rfl) | (simp [*]; done)); (with_reducible repeat (first | refine blk_drewN ?_ _ | refine blk_drew ?_ | refine blk_alloc ?_ _)); refine blk_put (cs := #[.int .i64 0, .int .i64 0, .int .i64 0, .int .i64 0, .int .i64 0, .int .i64 0, .int .i64 0]) ?_ 0 _ (by first | rfl | (simp only [gt_iff_lt, *]; rfl) | (simp [*]; done)); (with_reducible repeat (first | refine blk_drewN ?_ _ | refine blk_drew ?_ | refine blk_alloc ?_ _)); exact BK406.out⟩
              have n1_ : Aside0 (Below w.heap.size w (((((((w19.setCell ⟨gb406, 0, none⟩ (.int .i64 ((rd_T62 l0 x7_1).f0))).setCell ⟨gb406, 1, none⟩ (.int .i64 ((rd_T62 l0 x7_1).f1))).setCell ⟨gb406, 2, none⟩ (.int .i64 ((rd_T62 l0 x7_1).f2))).setCell ⟨gb406, 3, none⟩ (.int .i64 ((rd_T62 l0 x7_1).f3.f0))).setCell ⟨gb406, 4, none⟩ (.int .i64 ((rd_T62 l0 x7_1).f3.f1))).setCell ⟨gb406, 5, none⟩ (.int .i64 ((rd_T62 l0 x7_1).f3.f2))).setCell ⟨gb406, 6, none⟩ (.int .i64 ((rd_T62 l0 x7_1).f4)))) := ⟨by repeat (first | (with_reducible first | exact HB.out | apply below_alloc | apply pw_below_drewN | apply below_drew1 | refine below_set ?_ GE406.out) | exact HB.out)⟩
              (try clear BK406)
              (try clear HB)
              generalize (((((((w19.setCell ⟨gb406, 0, none⟩ (.int .i64 ((rd_T62 l0 x7_1).f0))).setCell ⟨gb406, 1, none⟩ (.int .i64 ((rd_T62 l0 x7_1).f1))).setCell ⟨gb406, 2, none⟩ (.int .i64 ((rd_T62 l0 x7_1).f2))).setCell ⟨gb406, 3, none⟩ (.int .i64 ((rd_T62 l0 x7_1).f3.f0))).setCell ⟨gb406, 4, none⟩ (.int .i64 ((rd_T62 l0 x7_1).f3.f1))).setCell ⟨gb406, 5, none⟩ (.int .i64 ((rd_T62 l0 x7_1).f3.f2))).setCell ⟨gb406, 6, none⟩ (.int .i64 ((rd_T62 l0 x7_1).f4))) = w21 at n0_ n1_ ⊢
              have BK406 := n0_
              have HB := n1_
              clear n0_ n1_
              have n0_ := Aside0.mk (blk_drew BK406.out)
              have n1_ := Aside0.mk (below_drew1 HB.out)
              clear BK406
              clear HB
              have BK406 := n0_
              have HB := n1_
              clear n0_ n1_
              refine start_ (n := 14) (S := fun w' => w'.cell? ⟨gb406, 0, none⟩ = some (.int .i64 ((rd_T62 l0 x7_1).f0)) ∧ w'.cell? ⟨gb406, 1, none⟩ = some (.int .i64 ((rd_T62 l0 x7_1).f1)) ∧ w'.cell? ⟨gb406, 2, none⟩ = some (.int .i64 ((rd_T62 l0 x7_1).f2)) ∧ w'.cell? ⟨gb406, 3, none⟩ = some (.int .i64 ((rd_T62 l0 x7_1).f3.f0)) ∧ w'.cell? ⟨gb406, 4, none⟩ = some (.int .i64 ((rd_T62 l0 x7_1).f3.f1)) ∧ w'.cell? ⟨gb406, 5, none⟩ = some (.int .i64 ((rd_T62 l0 x7_1).f3.f2)) ∧ w'.cell? ⟨gb406, 6, none⟩ = some (.int .i64 ((rd_T62 l0 x7_1).f4))) (ds := []) #[false, false, false, false, false, false, false, false, false, false, false, false, false, false] (by kernel_rfl) rfl rfl ⟨(blk_cell BK406.out 0).trans rfl, (blk_cell BK406.out 1).trans rfl, (blk_cell BK406.out 2).trans rfl, (blk_cell BK406.out 3).trans rfl, (blk_cell BK406.out 4).trans rfl, (blk_cell BK406.out 5).trans rfl, (blk_cell BK406.out 6).trans rfl⟩ (fun hHeld => ?_); refine with_tabW block_Fits.tab4 block_Fits.bits4 (fun HT_ HW_ => ?_)
              generalize w21.drew = w22 at BK406 HB hHeld ⊢
              refine take_ (i := 0) (N := some 12) (v := ?_) (a' := ?_) #[true, false, false, false, false, false, false, false, false, false, false, false, false, false] rfl rfl (take_ofW HT_.out HW_.out (by kernel_rfl)) (fun _ _ _ h => h) (Or.inl ⟨by rfl, ?_⟩) hHeld ?_ ?_
              rotate_left
              · rintro w' ⟨s0, s1, s2, s3, s4, s5, s6⟩
                go_simp
                with_reducible rfl
              rotate_left
              · simp only [Act.put, List.setIfInBounds_toArray, List.set_cons_zero, List.set_cons_succ, i64_w, i32_w]
                rfl
              refine one_ (i := 1) (N := some 13) #[true, true, false, false, false, false, false, false, false, false, false, false, false, false] rfl rfl (one_of HT_.out (by kernel_rfl)) (by decide) (fun K hK => ?_)
              refine goes_ Tryz.func43 (by kernel_rfl) rfl #[.agg #[.int .i64 ((rd_T62 l0 x7_1).f0), .int .i64 ((rd_T62 l0 x7_1).f1), .int .i64 ((rd_T62 l0 x7_1).f2), .int .i64 ((rd_T62 l0 x7_1).f3.f0), .int .i64 ((rd_T62 l0 x7_1).f3.f1), .int .i64 ((rd_T62 l0 x7_1).f3.f2), .int .i64 ((rd_T62 l0 x7_1).f4)]] (by rfl) rfl rfl (by (try simp only [List.map_toArray, List.map_cons, List.map_nil]); first | done | rfl | (simp only [List.length_drop, List.length_take]; rfl)) ?_
              with_reducible refine (schema_Fits.calls ((rd_T62 l0 x7_1).f0) ((rd_T62 l0 x7_1).f1) ((rd_T62 l0 x7_1).f2) ((rd_T62 l0 x7_1).f3.f0) ((rd_T62 l0 x7_1).f3.f1) ((rd_T62 l0 x7_1).f3.f2) ((rd_T62 l0 x7_1).f4) false _ A5.out).mono ?_
              rintro e w23 ⟨rfl, hb⟩
              refine ⟨_, rfl, ?_⟩
              have n0_ := Aside0.mk (blk_below (g := gb406) (o := .cells #[.int .i64 ((rd_T62 l0 x7_1).f0), .int .i64 ((rd_T62 l0 x7_1).f1), .int .i64 ((rd_T62 l0 x7_1).f2), .int .i64 ((rd_T62 l0 x7_1).f3.f0), .int .i64 ((rd_T62 l0 x7_1).f3.f1), .int .i64 ((rd_T62 l0 x7_1).f3.f2), .int .i64 ((rd_T62 l0 x7_1).f4)] 62 (0, 0)) (by (with_reducible repeat (first | refine blk_drewN ?_ _ | refine blk_drew ?_ | refine blk_alloc ?_ _)); exact BK406.out) hb)
              have n1_ := Aside0.mk (below_step (by repeat (first | (with_reducible first | exact HB.out | apply below_alloc | apply pw_below_drewN | apply below_drew1 | refine below_set ?_ GE406.out) | exact HB.out)) hb)
              clear BK406
              clear HB
              have BK406 := n0_
              have HB := n1_
              clear n0_ n1_
              (try clear hb)
              (try clear hb2)
              (try clear hk)
              (try clear hi)
              refine hK.out _ _ ⟨(blk_cell BK406.out 0).trans rfl, (blk_cell BK406.out 1).trans rfl, (blk_cell BK406.out 2).trans rfl, (blk_cell BK406.out 3).trans rfl, (blk_cell BK406.out 4).trans rfl, (blk_cell BK406.out 5).trans rfl, (blk_cell BK406.out 6).trans rfl⟩ (fun hHeld => ?_)
              clear hK K
              refine norm_ (a' := ?_) ?_ ?_
              rotate_left
              · show Act.put _ (some 13) _ = _
                simp only [Act.put, List.setIfInBounds_toArray, List.set_cons_zero, List.set_cons_succ, i64_w, i32_w]
                rfl
              refine pure_ (i := 2) (N := some 14) (v := ?_) (a' := ?_) #[true, true, true, false, false, false, false, false, false, false, false, false, false, false] rfl rfl (any_of HT_.out (by kernel_rfl)) (fun _ _ _ h => h) (Or.inl ⟨by rfl, ?_⟩) ?_ ?_
              rotate_left
              · intro w'
                go_simp
                with_reducible rfl
              rotate_left
              · simp only [Act.put, List.setIfInBounds_toArray, List.set_cons_zero, List.set_cons_succ, i64_w, i32_w]
                rfl
              refine pure_ (i := 3) (N := some 15) (v := ?_) (a' := ?_) #[true, true, true, true, false, false, false, false, false, false, false, false, false, false] rfl rfl (any_of HT_.out (by kernel_rfl)) (fun _ _ _ h => h) (Or.inl ⟨by rfl, ?_⟩) ?_ ?_
              rotate_left
              · intro w'
                go_simp
                with_reducible rfl
              rotate_left
              · simp only [Act.put, List.setIfInBounds_toArray, List.set_cons_zero, List.set_cons_succ, i64_w, i32_w]
                rfl
              refine pure_ (i := 4) (N := some 16) (v := undef) (a' := ?_) #[true, true, true, true, true, false, false, false, false, false, false, false, false, false] rfl rfl (any_of HT_.out (by kernel_rfl)) (fun _ _ _ h => h) (Or.inr ⟨by rfl, rfl⟩) ?_ ?_
              rotate_left
              · simp only [Act.put, List.setIfInBounds_toArray, List.set_cons_zero, List.set_cons_succ, i64_w, i32_w]
                rfl
              refine pure_ (i := 5) (N := some 17) (v := undef) (a' := ?_) #[true, true, true, true, true, true, false, false, false, false, false, false, false, false] rfl rfl (any_of HT_.out (by kernel_rfl)) (fun _ _ _ h => h) (Or.inr ⟨by rfl, rfl⟩) ?_ ?_
              rotate_left
              · simp only [Act.put, List.setIfInBounds_toArray, List.set_cons_zero, List.set_cons_succ, i64_w, i32_w]
                rfl
              refine pure_ (i := 6) (N := some 18) (v := undef) (a' := ?_) #[true, true, true, true, true, true, true, false, false, false, false, false, false, false] rfl rfl (any_of HT_.out (by kernel_rfl)) (fun _ _ _ h => h) (Or.inr ⟨by rfl, rfl⟩) ?_ ?_
              rotate_left
              · simp only [Act.put, List.setIfInBounds_toArray, List.set_cons_zero, List.set_cons_succ, i64_w, i32_w]
                rfl
              refine pure_ (i := 7) (N := some 19) (v := undef) (a' := ?_) #[true, true, true, true, true, true, true, true, false, false, false, false, false, false] rfl rfl (any_of HT_.out (by kernel_rfl)) (fun _ _ _ h => h) (Or.inr ⟨by rfl, rfl⟩) ?_ ?_
              rotate_left
              · simp only [Act.put, List.setIfInBounds_toArray, List.set_cons_zero, List.set_cons_succ, i64_w, i32_w]
                rfl
              refine pure_ (i := 8) (N := some 20) (v := undef) (a' := ?_) #[true, true, true, true, true, true, true, true, true, false, false, false, false, false] rfl rfl (any_of HT_.out (by kernel_rfl)) (fun _ _ _ h => h) (Or.inr ⟨by rfl, rfl⟩) ?_ ?_
              rotate_left
              · simp only [Act.put, List.setIfInBounds_toArray, List.set_cons_zero, List.set_cons_succ, i64_w, i32_w]
                rfl
              refine pure_ (i := 9) (N := some 21) (v := undef) (a' := ?_) #[true, true, true, true, true, true, true, true, true, true, false, false, false, false] rfl rfl (any_of HT_.out (by kernel_rfl)) (fun _ _ _ h => h) (Or.inr ⟨by rfl, rfl⟩) ?_ ?_
              rotate_left
              · simp only [Act.put, List.setIfInBounds_toArray, List.set_cons_zero, List.set_cons_succ, i64_w, i32_w]
                rfl
              refine pure_ (i := 10) (N := some 22) (v := undef) (a' := ?_) #[true, true, true, true, true, true, true, true, true, true, true, false, false, false] rfl rfl (any_of HT_.out (by kernel_rfl)) (fun _ _ _ h => h) (Or.inr ⟨by rfl, rfl⟩) ?_ ?_
              rotate_left
              · simp only [Act.put, List.setIfInBounds_toArray, List.set_cons_zero, List.set_cons_succ, i64_w, i32_w]
                rfl
              refine pure_ (i := 11) (N := some 23) (v := undef) (a' := ?_) #[true, true, true, true, true, true, true, true, true, true, true, true, false, false] rfl rfl (any_of HT_.out (by kernel_rfl)) (fun _ _ _ h => h) (Or.inr ⟨by rfl, rfl⟩) ?_ ?_
              rotate_left
              · simp only [Act.put, List.setIfInBounds_toArray, List.set_cons_zero, List.set_cons_succ, i64_w, i32_w]
                rfl
              refine pure_ (i := 12) (N := some 24) (v := undef) (a' := ?_) #[true, true, true, true, true, true, true, true, true, true, true, true, true, false] rfl rfl (any_of HT_.out (by kernel_rfl)) (fun _ _ _ h => h) (Or.inr ⟨by rfl, rfl⟩) ?_ ?_
              rotate_left
              · simp only [Act.put, List.setIfInBounds_toArray, List.set_cons_zero, List.set_cons_succ, i64_w, i32_w]
                rfl
              refine pure_ (i := 13) (N := some 25) (v := ?_) (a' := ?_) #[true, true, true, true, true, true, true, true, true, true, true, true, true, true] rfl rfl (any_of HT_.out (by kernel_rfl)) (fun _ _ _ h => h) (Or.inl ⟨by rfl, ?_⟩) ?_ ?_
              rotate_left
              · intro w'
                go_simp
                with_reducible rfl
              rotate_left
              · simp only [Act.put, List.setIfInBounds_toArray, List.set_cons_zero, List.set_cons_succ, i64_w, i32_w]
                rfl
              refine done_ (done_of HT_.out (by kernel_rfl)) ?_
              try go_wp2
              go_ret
              exact ⟨by first | rfl | (simp [errW_none, errW_some] <;> rfl) | (simp [*, errW_none, errW_some] <;> rfl), by repeat (first | (with_reducible first | exact HB.out | apply below_alloc | apply pw_below_drewN | apply below_drew1 | refine below_set ?_ GE406.out) | exact HB.out)⟩
          · rw [if_neg c4] at H
            exact absurd H (by simp)
        · rw [if_neg c3] at H
          exact absurd H (by simp)
      · rw [if_neg c2] at H
        have c2b0 : decide (x7_1 < (l0.length : Int)) = false := decide_eq_false c2
        clear c2
        by_cases c24 : (l0.length : Int) > 0
        · rw [if_pos c24] at H
          have c24b0 : decide (0 < (l0.length : Int)) = true := decide_eq_true c24
          have c24b1 : decide (0 < l0.length) = true := decide_eq_true (by omega)
          clear c24
          obtain rfl := Option.some.inj H
          go_wp2
          go_ret
          exact ⟨by first | rfl | (simp [errW_none, errW_some] <;> rfl) | (simp [*, errW_none, errW_some] <;> rfl), by repeat (first | (with_reducible first | exact HB.out | apply below_alloc | apply pw_below_drewN | apply below_drew1) | exact HB.out)⟩
        · rw [if_neg c24] at H
          have c24b0 : decide (0 < (l0.length : Int)) = false := decide_eq_false c24
          have c24b1 : decide (0 < l0.length) = false := decide_eq_false (by omega)
          clear c24
          obtain rfl := Option.some.inj H
          go_wp2
          go_ret
          exact ⟨by first | rfl | (simp [errW_none, errW_some] <;> rfl) | (simp [*, errW_none, errW_some] <;> rfl), by repeat (first | (with_reducible first | exact HB.out | apply below_alloc | apply pw_below_drewN | apply below_drew1) | exact HB.out)⟩
/-! ### block_Encode: function 88 -/
/-- Records one behind the other; f: what each process's last one had. -/
def block_Encode.go (k : Nat) : List S62 → (Int → Int) → List Int → Option (List Int)
  | [], _, b => some b
  | x :: l, f, b => if 0 ≤ x.f1 ∧ x.f1 ≤ 64 ∧ 0 ≤ x.f2 ∧ x.f2 < 4611686018427387904 then
      (num_Put.f k b x.f1).bind fun b1 => (num_PutSigned.f k b1 (wrap64 (x.f2 - f x.f1))).bind fun b2 => (codec_PutOp.f k b2 x.f3.f0 x.f3.f1 x.f3.f2).bind fun b3 => (num_PutSigned.f k b3.1 x.f4).bind fun b4 => block_Encode.go k l (Go.Proofs.YtgljebaiakhbfaaGreat.MapAid.upd f x.f1 x.f2) b4
    else none
theorem block_Encode.go_mono (k : Nat) : ∀ l f b, LeO (block_Encode.go k l f b) (block_Encode.go (k + 1) l f b)
  | [], _, _ => LeO.refl _
  | x :: l, f, b => by
    unfold block_Encode.go
    repeat' first
      | (with_reducible exact block_Encode.go_mono k _ _ _)
      | (with_reducible exact num_Put.mono _ _ _)
      | (with_reducible exact num_PutSigned.mono _ _ _)
      | (with_reducible exact codec_PutOp.mono _ _ _ _ _)
      | (with_reducible exact LeO.refl _)
      | (with_reducible refine LeO.ite ?_ ?_)
      | (with_reducible refine LeO.bind ?_ (fun _ => ?_))
def block_Encode.f (k : Nat) (l : List S62) : Option (List Int × Int) :=
  (block_Fits.f k l).bind fun t => if t = true then (if 0 < (l.length : Int) then
    (num_Put.f k [] (rd_T62 l 0).f0).bind fun b1 => (num_Put.f k b1 (l.length : Int)).bind fun b2 => (block_Encode.go k l (fun _ => 0) b2).bind fun b => some (b, 0)
  else none) else some ([], 1)
theorem block_Encode.mono : ∀ a0 k, LeO (block_Encode.f k a0) (block_Encode.f (k + 1) a0) := by
  intro a0 k
  unfold block_Encode.f
  repeat' first
      | (with_reducible exact block_Encode.go_mono _ _ _ _)
      | (with_reducible exact num_Put.mono _ _ _)
      | (with_reducible exact block_Fits.mono _ _)
      | (with_reducible exact LeO.refl _)
      | (with_reducible refine LeO.ite ?_ ?_)
      | (with_reducible refine LeO.bind ?_ (fun _ => ?_))
theorem block_Encode.wf_of {n : Int} (h0 : -9223372036854775808 ≤ n) (h1 : n ≤ 9223372036854775807) : (Lit.int .i64 n).wf = true := by
  have e : n = wrap64 n := by unfold wrap64; omega
  rw [e]; exact wrap64_wf _
/-- A record stored. -/
def block_Encode.st (W : World) (G : Nat) (x : S62) : World := ((((((W.setCell ⟨G, 0, none⟩ (.int .i64 x.f0)).setCell ⟨G, 1, none⟩ (.int .i64 x.f1)).setCell ⟨G, 2, none⟩ (.int .i64 x.f2)).setCell ⟨G, 3, none⟩ (.int .i64 x.f3.f0)).setCell ⟨G, 4, none⟩ (.int .i64 x.f3.f1)).setCell ⟨G, 5, none⟩ (.int .i64 x.f3.f2)).setCell ⟨G, 6, none⟩ (.int .i64 x.f4)
def block_Encode.cs (x : S62) : Array Value := #[.int .i64 x.f0, .int .i64 x.f1, .int .i64 x.f2, .int .i64 x.f3.f0, .int .i64 x.f3.f1, .int .i64 x.f3.f2, .int .i64 x.f4]
theorem block_Encode.st_heap {W : World} {G t : Nat} {a0 a1 a2 a3 a4 a5 a6 : Value} (h : W.heap[G]? = some (.cells #[a0, a1, a2, a3, a4, a5, a6] t (0, 0))) (x : S62) : (block_Encode.st W G x).heap[G]? = some (.cells (block_Encode.cs x) t (0, 0)) :=
  by
    have h0 := blk_put h 0 (.int .i64 x.f0) (cs' := #[.int .i64 x.f0, a1, a2, a3, a4, a5, a6]) rfl
    have h1 := blk_put h0 1 (.int .i64 x.f1) (cs' := #[.int .i64 x.f0, .int .i64 x.f1, a2, a3, a4, a5, a6]) rfl
    have h2 := blk_put h1 2 (.int .i64 x.f2) (cs' := #[.int .i64 x.f0, .int .i64 x.f1, .int .i64 x.f2, a3, a4, a5, a6]) rfl
    have h3 := blk_put h2 3 (.int .i64 x.f3.f0) (cs' := #[.int .i64 x.f0, .int .i64 x.f1, .int .i64 x.f2, .int .i64 x.f3.f0, a4, a5, a6]) rfl
    have h4 := blk_put h3 4 (.int .i64 x.f3.f1) (cs' := #[.int .i64 x.f0, .int .i64 x.f1, .int .i64 x.f2, .int .i64 x.f3.f0, .int .i64 x.f3.f1, a5, a6]) rfl
    have h5 := blk_put h4 5 (.int .i64 x.f3.f2) (cs' := #[.int .i64 x.f0, .int .i64 x.f1, .int .i64 x.f2, .int .i64 x.f3.f0, .int .i64 x.f3.f1, .int .i64 x.f3.f2, a6]) rfl
    have h6 := blk_put h5 6 (.int .i64 x.f4) (cs' := #[.int .i64 x.f0, .int .i64 x.f1, .int .i64 x.f2, .int .i64 x.f3.f0, .int .i64 x.f3.f1, .int .i64 x.f3.f2, .int .i64 x.f4]) rfl
    exact h6
theorem block_Encode.st_far (W : World) {G g : Nat} (hg : g ≠ G) (x : S62) : (block_Encode.st W G x).heap[g]? = W.heap[g]? := by
  unfold block_Encode.st
  rw [Below.heap_setCell _ _ _ g hg, Below.heap_setCell _ _ _ g hg, Below.heap_setCell _ _ _ g hg, Below.heap_setCell _ _ _ g hg, Below.heap_setCell _ _ _ g hg, Below.heap_setCell _ _ _ g hg, Below.heap_setCell _ _ _ g hg]
theorem block_Encode.st_below {w W : World} {G : Nat} (hb : Below w.heap.size w W) (hG : w.heap.size ≤ G) (x : S62) : Below w.heap.size w (block_Encode.st W G x) :=
  below_set (below_set (below_set (below_set (below_set (below_set (below_set hb hG) hG) hG) hG) hG) hG) hG
theorem block_Encode.st_row {w W : World} {B G : Nat} {v : Value} {b : List Int} {cs : Array Value} (h : Kd.R (Kd.int .u8) 5 W B (fun _ => True) v b) (hb : W.heap[G]? = some (.cells cs 62 (0, 0))) (x : S62) : Kd.R (Kd.int .u8) 5 (block_Encode.st W G x) B (fun _ => True) v b :=
  Kd.R_mono (Kd.R_step (Kd.R_types h hb (by decide)) (fun j hj _ => block_Encode.st_far W hj.2 x)) (fun _ _ => trivial)
theorem block_Encode.rd_drop (l : List S62) (i : Nat) (h : i < l.length) : l.drop i = rd_T62 l (i : Int) :: l.drop (i + 1) := by
  rw [List.drop_eq_getElem_cons h]
  unfold rd_T62
  rw [Int.toNat_natCast, List.getD_eq_getElem?_getD, List.getElem?_eq_getElem h]; rfl
set_option maxHeartbeats 8000000 in
set_option maxRecDepth 100000 in
theorem block_Encode.calls (k : Nat) (A0 : Option Addr) (c0 : Nat) (l0 : List S62) (r1 : List Int) (r2 : Int) (w : World) (hr0 : Kd.C k62 w A0 l0.length l0) (hc0 : l0.length ≤ c0) (h : block_Encode.f k l0 = some (r1, r2)) :
    Calls Tryz.prog 88 #[.slice A0 l0.length c0] w fun e w' => ∃ v0_ : Value, e = .returned (.tuple #[v0_, .int .i64 r2]) ∧ Kd.R (Kd.int .u8) 5 w' w.heap.size (fun _ => True) v0_ r1 ∧ Below w.heap.size w w' := by
  have hmm := @run_makeMap Tryz.prog
  have hu62 := Tryz.underlying62
  have hu38 := Tryz.underlying38
  unfold block_Encode.f at h
  rw [Option.bind_eq_some_iff] at h
  obtain ⟨t, ht, h⟩ := h
  have HT := Aside0.mk ht
  have HR0 := Aside0.mk hr0
  have HC0 := Aside0.mk hc0
  have HL := Aside0.mk hr0.2.1
  clear ht hr0 hc0
  have tokA_ : True := trivial
  cases t with
  | false =>
    rw [if_neg (by decide)] at h
    simp only [Option.some.injEq, Prod.mk.injEq] at h
    obtain ⟨rfl, rfl⟩ := h
    go_enter Tryz.func88, Tryz.ntmps88
    go_wp2_with (clear tokA_; go_at_call 128; refine (block_Fits.calls k A0 c0 l0 false _ HR0.out HC0.out HT.out).mono ?_; rintro e W1 ⟨rfl, hb1⟩; have HB1 := Aside0.mk hb1; clear hb1)
    go_ret2
    exact ⟨_, rfl, Kd.R_nil _ _ _ _ _, HB1.out⟩
  | true =>
    rw [if_pos rfl] at h
    by_cases hpos : 0 < (l0.length : Int)
    case neg => (rw [if_neg hpos] at h; cases h)
    rw [if_pos hpos, Option.bind_eq_some_iff] at h
    obtain ⟨b1, hp1, h⟩ := h
    rw [Option.bind_eq_some_iff] at h
    obtain ⟨b2, hp2, h⟩ := h
    rw [Option.bind_eq_some_iff] at h
    obtain ⟨rb, hgo, h⟩ := h
    simp only [Option.some.injEq, Prod.mk.injEq] at h
    obtain ⟨rfl, rfl⟩ := h
    have HP1 := Aside0.mk hp1
    have HP2 := Aside0.mk hp2
    have HG := Aside0.mk hgo
    clear hp1 hp2 hgo
    have c0b : decide (0 < (l0.length : Int)) = true := decide_eq_true hpos
    have c0n : decide (0 < l0.length) = true := decide_eq_true (by omega)
    obtain ⟨ad0, e0, hx0, _⟩ := at_T62 HR0.out 0 (Int.le_refl _) hpos
    cases e0
    rw [show ((0 : Int)).toNat = 0 from rfl, Nat.zero_mul, Addr.add_zero'] at hx0
    obtain ⟨i0, hi0⟩ : ∃ i0, i0 = (rd_T62 l0 0).f0 := ⟨_, rfl⟩
    rw [← hi0] at hx0
    have HX0 := Aside0.mk hx0
    have HI0 := Aside0.mk hi0
    have qi0 : (0 < l0.length) = True := eq_true (by omega)
    clear hx0 hi0 hpos
    go_enter Tryz.func88, Tryz.ntmps88
    have tokB_ : True := trivial
    have tokC_ : True := trivial
    go_wp2_with (first
      | (clear tokA_; go_at_call 128; refine (block_Fits.calls k (some ad0) c0 l0 true _ HR0.out HC0.out HT.out).mono ?_; rintro e W1 ⟨rfl, hb1⟩; have HB1 := Aside0.mk hb1; clear hb1; have hx1 : ∀ o, (W1.alloc o).cell? ad0 = some (.int .i64 i0) := fun o => ((below_alloc HB1.out o).cell (World.block_lt_of_cell? w _ HX0.out)).trans HX0.out)
      | (clear tokB_; go_at_call 22; refine (num_Put.calls k (fun k_ => some k_ = (.slice none 0 0 : Value).ownBlock) (.slice none 0 0) [] i0 b1 w _ (below_alloc HB1.out _) (Kd.R_nil _ _ _ _ _) (HI0.out.symm ▸ HP1.out)).mono ?_; rintro e W2 ⟨v1, rfl, ho, hb, hkp⟩; have HO2 := Aside0.mk (Kd.R_mono (ok' := fun _ => True) ho (fun _ _ => trivial)); have HB2 := Aside0.mk hb; have HM2 := Aside0.mk ((Go.Proofs.YtgljebaiakhbfaaGreat.MapAid.IsM.made Tryz.prog 3 W1).kept hkp (fun hs => by simp [Value.ownBlock] at hs)); have HMw := Aside0.mk (below_size HB1.out); obtain ⟨M, hM⟩ : ∃ M, M = W1.heap.size := ⟨_, rfl⟩; rw [← hM] at HM2 HMw ⊢; clear ho hb hkp hx1 hM)
      | (clear tokC_; go_at_call 22; refine (num_Put.calls k (fun k_ => some k_ = v1.ownBlock) v1 b1 (l0.length : Int) b2 w _ HB2.out (Kd.R_tight rfl HO2.out) HP2.out).mono ?_; rintro e W3 ⟨v2, rfl, ho, hb, hkp⟩; have HO3 := Aside0.mk (Kd.R_mono (ok' := fun _ => True) ho (fun _ _ => trivial)); have HB3 := Aside0.mk hb; have HM3 := Aside0.mk (HM2.out.kept hkp (fun hs => HM2.out.ne_own HO2.out hs)); clear ho hb hkp HO2 HB2 HM2))
    go_loopg [5, 22] l0.length (fun kq v5 v22 w' => ∃ (i : Nat) (f : Int → Int) (b : List Int), v22 = .int .i64 i ∧ Aside0 (i + kq = l0.length) ∧ Aside0 (block_Encode.go k (l0.drop i) f b = some rb) ∧ Aside0 (Kd.R (Kd.int .u8) 5 w' w.heap.size (fun _ => True) v5 b) ∧ Aside0 (Go.Proofs.YtgljebaiakhbfaaGreat.MapAid.IsM Tryz.prog 3 w' M i f) ∧ Aside0 (Below w.heap.size w w'))
    case atStart => exact ⟨0, _, _, rfl, ⟨by omega⟩, HG, HO3, HM3, HB3⟩
    case round =>
      clear HG HO3 HM3 HB3
      obtain ⟨i, f, b, rfl, HI, HG, HO, HM, HB⟩ := hrel
      have hi := HI.out
      have hl := HL.out
      cases gk with
      | zero =>
        have c1 : decide ((i : Int) < (l0.length : Int)) = false := decide_eq_false (by omega)
        have c2 : decide (i < l0.length) = false := decide_eq_false (by omega)
        have h := HG.out
        rw [List.drop_eq_nil_of_le (by omega)] at h
        simp only [block_Encode.go, Option.some.injEq] at h
        subst h
        clear hi hl
        go_wp2
        go_ret2
        exact ⟨_, rfl, HO.out, HB.out⟩
      | succ n =>
        have hlt : i < l0.length := by omega
        have h := HG.out
        obtain ⟨x, hx⟩ : ∃ x, x = rd_T62 l0 (i : Int) := ⟨_, rfl⟩
        rw [block_Encode.rd_drop l0 i hlt, ← hx] at h
        simp only [block_Encode.go] at h
        by_cases hc : 0 ≤ x.f1 ∧ x.f1 ≤ 64 ∧ 0 ≤ x.f2 ∧ x.f2 < 4611686018427387904
        case neg => (rw [if_neg hc] at h; cases h)
        rw [if_pos hc, Option.bind_eq_some_iff] at h
        obtain ⟨b1, g1, h⟩ := h
        rw [Option.bind_eq_some_iff] at h
        obtain ⟨b2, g2, h⟩ := h
        rw [Option.bind_eq_some_iff] at h
        obtain ⟨⟨b3, e3⟩, g3, h⟩ := h
        rw [Option.bind_eq_some_iff] at h
        obtain ⟨b4, g4, h⟩ := h
        have A1 := Aside0.mk g1
        have A2 := Aside0.mk g2
        have A3 := Aside0.mk g3
        have A4 := Aside0.mk g4
        have HG5 := Aside0.mk h
        have HW1 := Aside0.mk (block_Encode.wf_of (n := x.f1) (by omega) (by omega))
        have HW2 := Aside0.mk (block_Encode.wf_of (n := x.f2) (by omega) (by omega))
        clear h g1 g2 g3 g4 HG hc
        obtain ⟨ad, ead, hx0, hx1, hx2, hx3, hx4, hx5, hx6⟩ := at_T62 HR0.out (i : Int) (by omega) (by omega)
        cases ead
        rw [← hx, Int.toNat_natCast] at hx0 hx1 hx2 hx3 hx4 hx5 hx6
        replace hx0 := (HB.out.cell (World.block_lt_of_cell? w _ hx0)).trans hx0
        replace hx1 := (HB.out.cell (World.block_lt_of_cell? w _ hx1)).trans hx1
        replace hx2 := (HB.out.cell (World.block_lt_of_cell? w _ hx2)).trans hx2
        replace hx3 := (HB.out.cell (World.block_lt_of_cell? w _ hx3)).trans hx3
        replace hx4 := (HB.out.cell (World.block_lt_of_cell? w _ hx4)).trans hx4
        replace hx5 := (HB.out.cell (World.block_lt_of_cell? w _ hx5)).trans hx5
        replace hx6 := (HB.out.cell (World.block_lt_of_cell? w _ hx6)).trans hx6
        have HX := Aside0.mk hx
        have c1 : decide ((i : Int) < (l0.length : Int)) = true := decide_eq_true (by omega)
        have c2 : decide (i < l0.length) = true := decide_eq_true hlt
        have p1 := eq_true (show (0 : Int) ≤ (i : Int) by omega)
        have p2 := eq_true (show (i : Int) < (l0.length : Int) by omega)
        have HLT := Aside0.mk hlt
        clear hi hl hlt hx
        go_wp2_with (first
          | ((with_reducible refine gate_dst (N := 7) rfl ?_); refine box_event ?hg (N := 7) ?hd (cs := #[.int .i64 0, .int .i64 0, .int .i64 0, .int .i64 0, .int .i64 0, .int .i64 0, .int .i64 0]) (t := 62) ?hr ?_; (case hd => rfl); (case hg => rfl); (case hr => first | (go_simp; done) | (go_simp; rfl)); intro G hg Wb hbox hb; have HOb := Aside0.mk (Kd.R_below HO.out hb); have HMb := Aside0.mk (HM.out.below hb); have BKb := Aside0.mk hbox; have HBb := Aside0.mk (below_step HB.out hb); have HGW := Aside0.mk (show w.heap.size ≤ G by rw [hg]; exact below_size HB.out); clear hg hbox hb HO HM HB; have zc0 := (blk_cell BKb.out 0).trans rfl; have zc1 := (blk_cell BKb.out 1).trans rfl; have zc2 := (blk_cell BKb.out 2).trans rfl; have zc3 := (blk_cell BKb.out 3).trans rfl; have zc4 := (blk_cell BKb.out 4).trans rfl; have zc5 := (blk_cell BKb.out 5).trans rfl; have zc6 := (blk_cell BKb.out 6).trans rfl; have zf0 := blk_frozen BKb.out 0; have zf1 := blk_frozen BKb.out 1; have zf2 := blk_frozen BKb.out 2; have zf3 := blk_frozen BKb.out 3; have zf4 := blk_frozen BKb.out 4; have zf5 := blk_frozen BKb.out 5; have zf6 := blk_frozen BKb.out 6))
        obtain ⟨Ws, hw⟩ : ∃ Ws, Ws = block_Encode.st Wb G x := ⟨_, rfl⟩
        show Code.wp _ _ _ _ (block_Encode.st Wb G x)
        rw [← hw]
        have HOs := Aside0.mk (show Kd.R (Kd.int .u8) 5 Ws w.heap.size (fun _ => True) u5 b by rw [hw]; exact block_Encode.st_row (w := w) HOb.out BKb.out x)
        have HMs := Aside0.mk (show Go.Proofs.YtgljebaiakhbfaaGreat.MapAid.IsM Tryz.prog 3 Ws M i f by rw [hw]; exact HMb.out.move (block_Encode.st_far Wb (HMb.out.ne BKb.out) x))
        have BKs := Aside0.mk (show Ws.heap[G]? = some (.cells (block_Encode.cs x) 62 (0, 0)) by rw [hw]; exact block_Encode.st_heap BKb.out x)
        have HBs := Aside0.mk (show Below w.heap.size w Ws by rw [hw]; exact block_Encode.st_below HBb.out HGW.out x)
        clear hw HOb HMb BKb HBb zc0 zc1 zc2 zc3 zc4 zc5 zc6 zf0 zf1 zf2 zf3 zf4 zf5 zf6 hx0 hx1 hx2 hx3 hx4 hx5 hx6
        have hw1 := HW1.out
        have BKd := Aside0.mk (blk_drew BKs.out)
        have HMd := Aside0.mk HMs.out.drew
        have HOd := Aside0.mk (Kd.R_drew HOs.out)
        have HBd := Aside0.mk (below_drew1 HBs.out)
        clear BKs HMs HOs HBs
        refine start_ (n := 13) (S := fun w' => w'.cell? ⟨G, 1, none⟩ = some (.int .i64 x.f1) ∧ w'.cell? ⟨G, 2, none⟩ = some (.int .i64 x.f2) ∧ (Instr.lookup 185 (.map (some M)) (.int .i64 x.f1) false).run Tryz.prog w' = .ok (.int .i64 (f x.f1)) w') (ds := []) #[false, false, false, false, false, false, false, false, false, false, false, false, false] (by kernel_rfl) rfl rfl ⟨(blk_cell BKd.out 1).trans rfl, (blk_cell BKd.out 2).trans rfl, (HMd.out.lookup Tryz.underlying3 Tryz.underlying185 (by kernel_rfl) hw1).1⟩ (fun hHeld => ?_)
        generalize Ws.drew = Wd at BKd HMd HOd HBd hHeld ⊢
        refine pure_ (i := 0) (N := some 26) (v := ?_) (a' := ?_) #[true, false, false, false, false, false, false, false, false, false, false, false, false] rfl rfl (by kernel_rfl) (fun _ _ _ h => h) (Or.inl ⟨by rfl, ?_⟩) ?_ ?_
        rotate_left
        · intro w'
          go_simp
          with_reducible rfl
        rotate_left
        · simp only [Act.put, List.setIfInBounds_toArray, List.set_cons_zero, List.set_cons_succ, i64_w, i32_w]
          rfl
        refine pure_ (i := 1) (N := some 27) (v := ?_) (a' := ?_) #[true, true, false, false, false, false, false, false, false, false, false, false, false] rfl rfl (by kernel_rfl) (fun _ _ _ h => h) (Or.inl ⟨by rfl, ?_⟩) ?_ ?_
        rotate_left
        · intro w'
          go_simp
          with_reducible rfl
        rotate_left
        · simp only [Act.put, List.setIfInBounds_toArray, List.set_cons_zero, List.set_cons_succ, i64_w, i32_w]
          rfl
        refine pure_ (i := 4) (N := some 30) (v := ?_) (a' := ?_) #[true, true, false, false, true, false, false, false, false, false, false, false, false] rfl rfl (by kernel_rfl) (fun _ _ _ h => h) (Or.inl ⟨by rfl, ?_⟩) ?_ ?_
        rotate_left
        · intro w'
          go_simp
          with_reducible rfl
        rotate_left
        · simp only [Act.put, List.setIfInBounds_toArray, List.set_cons_zero, List.set_cons_succ, i64_w, i32_w]
          rfl
        refine pure_ (i := 6) (N := some 32) (v := ?_) (a' := ?_) #[true, true, false, false, true, false, true, false, false, false, false, false, false] rfl rfl (by kernel_rfl) (fun _ _ _ h => h) (Or.inl ⟨by rfl, ?_⟩) ?_ ?_
        rotate_left
        · intro w'
          go_simp
          with_reducible rfl
        rotate_left
        · simp only [Act.put, List.setIfInBounds_toArray, List.set_cons_zero, List.set_cons_succ, i64_w, i32_w]
          rfl
        refine pure_ (i := 7) (N := some 33) (v := ?_) (a' := ?_) #[true, true, false, false, true, false, true, true, false, false, false, false, false] rfl rfl (by kernel_rfl) (fun _ _ _ h => h) (Or.inl ⟨by rfl, ?_⟩) ?_ ?_
        rotate_left
        · intro w'
          go_simp
          with_reducible rfl
        rotate_left
        · simp only [Act.put, List.setIfInBounds_toArray, List.set_cons_zero, List.set_cons_succ, i64_w, i32_w]
          rfl
        refine take_ (i := 2) (N := some 28) (v := ?_) (a' := ?_) #[true, true, true, false, true, false, true, true, false, false, false, false, false] rfl rfl (by kernel_rfl) (fun _ _ _ h => h) (Or.inl ⟨by rfl, ?_⟩) hHeld ?_ ?_
        rotate_left
        · rintro w' ⟨s0, s1, s2⟩
          go_simp
          with_reducible rfl
        rotate_left
        · simp only [Act.put, List.setIfInBounds_toArray, List.set_cons_zero, List.set_cons_succ, i64_w, i32_w]
          rfl
        refine take_ (i := 5) (N := some 31) (v := ?_) (a' := ?_) #[true, true, true, false, true, true, true, true, false, false, false, false, false] rfl rfl (by kernel_rfl) (fun _ _ _ h => h) (Or.inl ⟨by rfl, ?_⟩) hHeld ?_ ?_
        rotate_left
        · rintro w' ⟨s0, s1, s2⟩
          go_simp
          with_reducible rfl
        rotate_left
        · simp only [Act.put, List.setIfInBounds_toArray, List.set_cons_zero, List.set_cons_succ, i64_w, i32_w]
          rfl
        refine take_ (i := 8) (N := some 34) (v := ?_) (a' := ?_) #[true, true, true, false, true, true, true, true, true, false, false, false, false] rfl rfl (by kernel_rfl) (fun _ _ _ h => h) (Or.inl ⟨by rfl, ?_⟩) hHeld ?_ ?_
        rotate_left
        · rintro w' ⟨s0, s1, s2⟩
          go_simp
          with_reducible rfl
        rotate_left
        · simp only [Act.put, List.setIfInBounds_toArray, List.set_cons_zero, List.set_cons_succ, i64_w, i32_w]
          rfl
        refine take_ (i := 9) (N := some 35) (v := ?_) (a' := ?_) #[true, true, true, false, true, true, true, true, true, true, false, false, false] rfl rfl (by kernel_rfl) (fun _ _ _ h => h) (Or.inl ⟨by rfl, ?_⟩) hHeld ?_ ?_
        rotate_left
        · rintro w' ⟨s0, s1, s2⟩
          go_simp
          with_reducible rfl
        rotate_left
        · simp only [Act.put, List.setIfInBounds_toArray, List.set_cons_zero, List.set_cons_succ, i64_w, i32_w]
          rfl
        refine pure_ (i := 10) (N := some 36) (v := ?_) (a' := ?_) #[true, true, true, false, true, true, true, true, true, true, true, false, false] rfl rfl (by kernel_rfl) (fun _ _ _ h => h) (Or.inl ⟨by rfl, ?_⟩) ?_ ?_
        rotate_left
        · intro w'
          go_simp
          with_reducible rfl
        rotate_left
        · simp only [Act.put, List.setIfInBounds_toArray, List.set_cons_zero, List.set_cons_succ, i64_w, i32_w]
          rfl
        refine one_ (i := 3) (N := some 29) #[true, true, true, true, true, true, true, true, true, true, true, false, false] rfl rfl (by kernel_rfl) (by decide) (fun K hK => ?_)
        refine goes_ Tryz.func22 (by kernel_rfl) rfl #[u5, .int .i64 x.f1] (by rfl) rfl rfl (by (try simp only [List.map_toArray, List.map_cons, List.map_nil]); first | done | rfl) ?_
        with_reducible refine (num_Put.calls k (fun k_ => some k_ = u5.ownBlock) u5 b x.f1 b1 w _ HBd.out (Kd.R_tight rfl HOd.out) A1.out).mono ?_
        rintro e W3 ⟨v1, rfl, ho, hb, hkp⟩
        refine ⟨_, rfl, ?_⟩
        have HO3 := Aside0.mk (Kd.R_mono (ok' := fun _ => True) ho (fun _ _ => trivial))
        have HB3 := Aside0.mk hb
        have BK3 := Aside0.mk (blk_kept BKd.out hkp (fun hs => (Kd.R_ne HOd.out BKd.out (by decide)) hs))
        have HM3 := Aside0.mk (HMd.out.kept hkp (fun hs => HMd.out.ne_own HOd.out hs))
        clear ho hb hkp
        refine hK.out _ _ ⟨(blk_cell BK3.out 1).trans rfl, (blk_cell BK3.out 2).trans rfl, (HM3.out.lookup Tryz.underlying3 Tryz.underlying185 (by kernel_rfl) hw1).1⟩ (fun hHeld => ?_)
        clear hK K
        refine norm_ (a' := ?_) ?_ ?_
        rotate_left
        · show Act.put _ (some 29) _ = _
          simp only [Act.put, List.setIfInBounds_toArray, List.set_cons_zero, List.set_cons_succ, i64_w, i32_w]
          rfl
        refine one_ (i := 11) (N := some 37) #[true, true, true, true, true, true, true, true, true, true, true, true, false] rfl rfl (by kernel_rfl) (by decide) (fun K hK => ?_)
        refine goes_ Tryz.func24 (by kernel_rfl) rfl #[v1, .int .i64 (wrap64 (x.f2 - f x.f1))] (by rfl) rfl rfl (by (try simp only [List.map_toArray, List.map_cons, List.map_nil]); first | done | rfl) ?_
        with_reducible refine (num_PutSigned.calls k (fun k_ => some k_ = v1.ownBlock) v1 b1 (wrap64 (x.f2 - f x.f1)) b2 w _ HB3.out (Kd.R_tight rfl HO3.out) A2.out).mono ?_
        rintro e W4 ⟨v2, rfl, ho, hb, hkp⟩
        refine ⟨_, rfl, ?_⟩
        have HO4 := Aside0.mk (Kd.R_mono (ok' := fun _ => True) ho (fun _ _ => trivial))
        have HB4 := Aside0.mk hb
        have BK4 := Aside0.mk (blk_kept BK3.out hkp (fun hs => (Kd.R_ne HO3.out BK3.out (by decide)) hs))
        have HM4 := Aside0.mk (HM3.out.kept hkp (fun hs => HM3.out.ne_own HO3.out hs))
        clear ho hb hkp
        refine hK.out _ _ ⟨(blk_cell BK4.out 1).trans rfl, (blk_cell BK4.out 2).trans rfl, (HM4.out.lookup Tryz.underlying3 Tryz.underlying185 (by kernel_rfl) hw1).1⟩ (fun hHeld => ?_)
        clear hK K
        refine norm_ (a' := ?_) ?_ ?_
        rotate_left
        · show Act.put _ (some 37) _ = _
          simp only [Act.put, List.setIfInBounds_toArray, List.set_cons_zero, List.set_cons_succ, i64_w, i32_w]
          rfl
        refine pure_ (i := 12) (N := some 5) (v := ?_) (a' := ?_) #[true, true, true, true, true, true, true, true, true, true, true, true, true] rfl rfl (by kernel_rfl) (fun _ _ _ h => h) (Or.inl ⟨by rfl, ?_⟩) ?_ ?_
        rotate_left
        · intro w'
          go_simp
          with_reducible rfl
        rotate_left
        · simp only [Act.put, List.setIfInBounds_toArray, List.set_cons_zero, List.set_cons_succ, i64_w, i32_w]
          rfl
        refine done_ (by kernel_rfl) ?_
        clear hw1
        have sc0 : W4.cell? ⟨G, 0, none⟩ = some (.int .i64 x.f0) := (blk_cell BK4.out 0).trans rfl
        have sc1 : W4.cell? ⟨G, 1, none⟩ = some (.int .i64 x.f1) := (blk_cell BK4.out 1).trans rfl
        have sc2 : W4.cell? ⟨G, 2, none⟩ = some (.int .i64 x.f2) := (blk_cell BK4.out 2).trans rfl
        have sc3 : W4.cell? ⟨G, 3, none⟩ = some (.int .i64 x.f3.f0) := (blk_cell BK4.out 3).trans rfl
        have sc4 : W4.cell? ⟨G, 4, none⟩ = some (.int .i64 x.f3.f1) := (blk_cell BK4.out 4).trans rfl
        have sc5 : W4.cell? ⟨G, 5, none⟩ = some (.int .i64 x.f3.f2) := (blk_cell BK4.out 5).trans rfl
        have sc6 : W4.cell? ⟨G, 6, none⟩ = some (.int .i64 x.f4) := (blk_cell BK4.out 6).trans rfl
        have tokD_ : True := trivial
        have tokE_ : True := trivial
        have tokF_ : True := trivial
        go_wp2_with (first
          | (clear tokD_; go_at_call 10; refine (codec_PutOp.calls k (fun k_ => some k_ = v2.ownBlock) v2 b2 x.f3.f0 x.f3.f1 x.f3.f2 b3 e3 w _ HB4.out (Kd.R_tight rfl HO4.out) A3.out).mono ?_; rintro e W5 ⟨v3, rfl, ho, hb, hkp⟩; have HO5 := Aside0.mk (Kd.R_mono (ok' := fun _ => True) ho (fun _ _ => trivial)); have HB5 := Aside0.mk hb; have BK5 := Aside0.mk (blk_kept BK4.out hkp (fun hs => (Kd.R_ne HO4.out BK4.out (by decide)) hs)); have HM5 := Aside0.mk (HM4.out.kept hkp (fun hs => HM4.out.ne_own HO4.out hs)); clear ho hb hkp; clear sc0 sc1 sc2 sc3 sc4 sc5 sc6; have sc0 : W5.cell? ⟨G, 0, none⟩ = some (.int .i64 x.f0) := (blk_cell BK5.out 0).trans rfl; have sc1 : W5.cell? ⟨G, 1, none⟩ = some (.int .i64 x.f1) := (blk_cell BK5.out 1).trans rfl; have sc2 : W5.cell? ⟨G, 2, none⟩ = some (.int .i64 x.f2) := (blk_cell BK5.out 2).trans rfl; have sc3 : W5.cell? ⟨G, 3, none⟩ = some (.int .i64 x.f3.f0) := (blk_cell BK5.out 3).trans rfl; have sc4 : W5.cell? ⟨G, 4, none⟩ = some (.int .i64 x.f3.f1) := (blk_cell BK5.out 4).trans rfl; have sc5 : W5.cell? ⟨G, 5, none⟩ = some (.int .i64 x.f3.f2) := (blk_cell BK5.out 5).trans rfl; have sc6 : W5.cell? ⟨G, 6, none⟩ = some (.int .i64 x.f4) := (blk_cell BK5.out 6).trans rfl)
          | (clear tokE_; go_at_call 24; refine (num_PutSigned.calls k (fun k_ => some k_ = v3.ownBlock) v3 b3 x.f4 b4 w _ HB5.out (Kd.R_tight rfl HO5.out) A4.out).mono ?_; rintro e W6 ⟨v4, rfl, ho, hb, hkp⟩; have HO6 := Aside0.mk (Kd.R_mono (ok' := fun _ => True) ho (fun _ _ => trivial)); have HB6 := Aside0.mk hb; have BK6 := Aside0.mk (blk_kept BK5.out hkp (fun hs => (Kd.R_ne HO5.out BK5.out (by decide)) hs)); have HM6 := Aside0.mk (HM5.out.kept hkp (fun hs => HM5.out.ne_own HO5.out hs)); clear ho hb hkp; clear sc0 sc1 sc2 sc3 sc4 sc5 sc6; have sc0 : W6.cell? ⟨G, 0, none⟩ = some (.int .i64 x.f0) := (blk_cell BK6.out 0).trans rfl; have sc1 : W6.cell? ⟨G, 1, none⟩ = some (.int .i64 x.f1) := (blk_cell BK6.out 1).trans rfl; have sc2 : W6.cell? ⟨G, 2, none⟩ = some (.int .i64 x.f2) := (blk_cell BK6.out 2).trans rfl; have sc3 : W6.cell? ⟨G, 3, none⟩ = some (.int .i64 x.f3.f0) := (blk_cell BK6.out 3).trans rfl; have sc4 : W6.cell? ⟨G, 4, none⟩ = some (.int .i64 x.f3.f1) := (blk_cell BK6.out 4).trans rfl; have sc5 : W6.cell? ⟨G, 5, none⟩ = some (.int .i64 x.f3.f2) := (blk_cell BK6.out 5).trans rfl; have sc6 : W6.cell? ⟨G, 6, none⟩ = some (.int .i64 x.f4) := (blk_cell BK6.out 6).trans rfl)
          | (clear tokF_; at_mapUpdate; refine Go.Proofs.YtgljebaiakhbfaaGreat.MapAid.wpList_mapUpdate_is rfl _ _ _ 185 rfl HM6.out Tryz.underlying3 Tryz.underlying185 (by unfold maxLen; have := HLT.out; have := HL.out; omega) rfl rfl rfl HW1.out HW2.out ?_; intro W7 hm hg; have HO7 := Aside0.mk (HM6.out.row_grown HO6.out hg); have HB7 := Aside0.mk (HB6.out.grown hg (below_size HB6.out) (fun j hj => by cases hj; exact HMw.out)); have HM7 := Aside0.mk hm; clear hm hg))
        go_roundg n
        case measure => omega
        case rel =>
          have hi := HI.out
          have hl := HL.out
          exact ⟨i + 1, _, _, by first | rfl | (rw [show wrap64 ((i : Int) + 1) = ((i + 1 : Nat) : Int) by unfold wrap64; omega]) | go_num, ⟨by omega⟩, HG5, HO7, HM7, HB7⟩
/-! ### objs_number: function 163 -/
def objs_number.j0 : Nat → Int → Bool → Int → List Int → Bool → Int → Int → Int → Int → Option (Int × List Int × Bool × Int × Int)
  | 0, _, _, _, _, _, _, _, _, _ => none
  | k + 1, x6, x17, x464000, x464001, x464002, x464003, x465000, x465001, x465002 => if x17 = true then ((objs_cut.f x465001).bind fun t467 => ((objs_cut.f (wrap64 (x6 + t467))).bind fun t468 => (some (x464000, (([t468] : List Int)), x464002, x464003, x6)))) else (if x464000 = 1 then (if x465000 = 2 then ((objs_cut.f x465001).bind fun t472 => (some (x464000, (([t472] : List Int)), x464002, x464003, x6))) else (some (x464000, x464001, x464002, x464003, 0))) else (some (x464000, x464001, x464002, x464003, 0)))
def objs_number.f (k : Nat) (a0_0 : Int) (l0_1 : List Int) (a0_2 : Bool) (a0_3 : Int) (a1_0 : Int) (a1_1 : Int) (a1_2 : Int) : Option (Int × List Int × Bool × Int × Int) := if 0 < (l0_1.length : Int) then (if a1_0 = 7 then (some (a0_0, l0_1, a0_2, a0_3, rd l0_1 0)) else (if a0_0 = 0 then (objs_number.j0 k (rd l0_1 0) (a1_0 == 1) a0_0 l0_1 a0_2 a0_3 a1_0 a1_1 a1_2) else (objs_number.j0 k (rd l0_1 0) false a0_0 l0_1 a0_2 a0_3 a1_0 a1_1 a1_2))) else (none)
theorem objs_number.mono_l : ∀ k, (∀ y0 y1 y2 y3 y4 y5 y6 y7 y8, LeO (objs_number.j0 k y0 y1 y2 y3 y4 y5 y6 y7 y8) (objs_number.j0 (k + 1) y0 y1 y2 y3 y4 y5 y6 y7 y8))
  | 0 => fun _ _ _ _ _ _ _ _ _ r h => by simp [objs_number.j0] at h
  | k + 1 => by
    have ih0 := objs_number.mono_l k
    · intro y0 y1 y2 y3 y4 y5 y6 y7 y8
      unfold objs_number.j0
      repeat' first
      | (with_reducible exact ih0 _ _ _ _ _ _ _ _ _)
      | (with_reducible exact LeO.refl _)
      | (with_reducible exact LeO.none _)
      | (with_reducible refine LeO.ite ?_ ?_)
      | (with_reducible refine LeO.bind ?_ (fun _ => ?_))
      | exact ih0 _ _ _ _ _ _ _ _ _
      | exact LeO.none _
      | refine LeO.ite ?_ ?_
      | refine LeO.bind ?_ (fun _ => ?_)
theorem objs_number.mono : ∀ a0 a1 a2 a3 a4 a5 a6 k, LeO (objs_number.f k a0 a1 a2 a3 a4 a5 a6) (objs_number.f (k + 1) a0 a1 a2 a3 a4 a5 a6) := by
  intro a0 a1 a2 a3 a4 a5 a6 k
  have ih0 := objs_number.mono_l k
  unfold objs_number.f
  repeat' first
      | (with_reducible exact ih0 _ _ _ _ _ _ _ _ _)
      | (with_reducible exact LeO.refl _)
      | (with_reducible exact LeO.none _)
      | (with_reducible refine LeO.ite ?_ ?_)
      | (with_reducible refine LeO.bind ?_ (fun _ => ?_))
      | exact ih0 _ _ _ _ _ _ _ _ _
      | exact LeO.none _
      | refine LeO.ite ?_ ?_
      | refine LeO.bind ?_ (fun _ => ?_)
set_option maxHeartbeats 8000000 in
set_option maxRecDepth 100000 in
theorem objs_number.calls (k : Nat) (a0_0 : Int) (P0_1_ : Nat → Prop) (u9000_ : Value) (l0_1 : List Int) (a0_2 : Bool) (a0_3 : Int) (a1_0 : Int) (a1_1 : Int) (a1_2 : Int) (r1 : Int) (r2 : List Int) (r3 : Bool) (r4 : Int) (r5 : Int) (w0 w : World) (hB : Below w0.heap.size w0 w) (ho0_1 : Kd.R (Kd.int .i64) 3 w w0.heap.size P0_1_ u9000_ l0_1) (h : objs_number.f k a0_0 l0_1 a0_2 a0_3 a1_0 a1_1 a1_2 = some (r1, r2, r3, r4, r5)) :
    Calls Tryz.prog 163 #[.agg #[.int .i64 a0_0, u9000_, .bool a0_2, .int .i64 a0_3], .agg #[.int .i64 a1_0, .int .i64 a1_1, .int .i64 a1_2]] w fun e w' => ∃ v1_ : Value, e = .returned (.tuple #[.agg #[.int .i64 r1, v1_, .bool r3, .int .i64 r4], .int .i64 r5]) ∧ Kd.R (Kd.int .i64) 3 w' w0.heap.size (fun k_ => (P0_1_ k_ ∨ w.heap.size ≤ k_)) v1_ r2 ∧ Below w0.heap.size w0 w' ∧ Kept w w' (fun k_ => P0_1_ k_) := by
  have hu36 := Tryz.underlying36
  have hu38 := Tryz.underlying38
  have HO0_1 := Aside0.mk (show Kd.R (Kd.int .i64) 3 w w0.heap.size (fun k_ => (P0_1_ k_ ∨ w.heap.size ≤ k_)) u9000_ l0_1 from Kd.R_mono ho0_1 (fun k_ hk => (.inl hk)))
  have HK := Aside0.mk (Kept.refl w (fun k_ => P0_1_ k_))
  have HW0 := Aside0.mk hB.size
  have HB := Aside0.mk hB
  clear hB
  have H : (if 0 < (l0_1.length : Int) then (if a1_0 = 7 then (some (a0_0, l0_1, a0_2, a0_3, rd l0_1 0)) else (if a0_0 = 0 then (objs_number.j0 k (rd l0_1 0) (a1_0 == 1) a0_0 l0_1 a0_2 a0_3 a1_0 a1_1 a1_2) else (objs_number.j0 k (rd l0_1 0) false a0_0 l0_1 a0_2 a0_3 a1_0 a1_1 a1_2))) else (none)) = some (r1, r2, r3, r4, r5) := h
  clear h
  by_cases c3 : 0 < (l0_1.length : Int)
  · rw [if_pos c3] at H
    have c3b0 : decide (0 < (l0_1.length : Int)) = true := decide_eq_true c3
    have c3b1 : decide (0 < l0_1.length) = true := decide_eq_true (by omega)
    clear c3
    by_cases c4 : a1_0 = 7
    · rw [if_pos c4] at H
      have c4b0 : (a1_0 == 7) = true := beq_iff_eq.mpr c4
      have c4b1 : (a1_0 != 7) = false := bne_eq_false_iff_eq.mpr c4
      clear c4
      simp only [Option.some.injEq, Prod.mk.injEq] at H
      obtain ⟨rfl, rfl, rfl, rfl, rfl⟩ := H
      obtain ⟨Ao5, co5, eo5⟩ := Kd.R_slice HO0_1.out
      subst eo5
      go_enter Tryz.func163, Tryz.ntmps163
      go_wp2_with (first | ((with_reducible refine gate_dst (N := 2) rfl ?_); refine box_event ?hg (N := 2) ?hd (cs := #[.int .i64 a0_0, .slice Ao5 l0_1.length co5, .bool a0_2, .int .i64 a0_3]) (t := 36) ?hr ?_; (case hd => rfl); (case hg => rfl); (case hr => first | (go_simp; done) | (go_simp; rfl)); intro gb463 hg w6 hbox hb; have n0_ := Aside0.mk (Kd.R_below (by (with_reducible repeat (first | apply Kd.R_alloc | apply Kd.R_drewN | apply Kd.R_drew)); exact HO0_1.out) hb); have n1_ := Aside0.mk (Kept.below (S := (fun k_ => P0_1_ k_)) (by repeat (first | (with_reducible first | exact HK.out | apply Kept.alloc | apply Kept.drewN | apply Kept.drew) | exact HK.out)) hb); have n2_ := Aside0.mk (below_step (by repeat (first | (with_reducible first | exact HB.out | apply below_alloc | apply pw_below_drewN | apply below_drew1) | exact HB.out)) hb); have n3_ := Aside0.mk (hbox); have n4_ := Aside0.mk ((by rw [hg]; exact (by first | exact HK.out.1 | exact (show Kept w _ (fun k_ => P0_1_ k_) from by repeat (first | (with_reducible first | exact HK.out | apply Kept.alloc | apply Kept.drewN | apply Kept.drew) | exact HK.out)).1) : w.heap.size ≤ gb463)); have n5_ := Aside0.mk ((by rw [hg]; exact (below_size (by repeat (first | (with_reducible first | exact HB.out | apply below_alloc | apply pw_below_drewN | apply below_drew1) | exact HB.out))) : w0.heap.size ≤ gb463)); clear HO0_1; clear HK; clear HB; have HO0_1 := n0_; have HK := n1_; have HB := n2_; have BK463 := n3_; have GW463 := n4_; have GE463 := n5_; clear n0_ n1_ n2_ n3_ n4_ n5_; clear hb hbox hg) | ((with_reducible refine gate_dst (N := 3) rfl ?_); refine box_event ?hg (N := 3) ?hd (cs := #[.int .i64 a1_0, .int .i64 a1_1, .int .i64 a1_2]) (t := 38) ?hr ?_; (case hd => rfl); (case hg => rfl); (case hr => first | (go_simp; done) | (go_simp; rfl)); intro gb464 hg w7 hbox hb; have n0_ := Aside0.mk (Kd.R_below (by (with_reducible repeat (first | apply Kd.R_alloc | apply Kd.R_drewN | apply Kd.R_drew)); exact HO0_1.out) hb); have n1_ := Aside0.mk (blk_below (g := gb463) (o := .cells #[.int .i64 a0_0, .slice Ao5 l0_1.length co5, .bool a0_2, .int .i64 a0_3] 36 (0, 0)) (by (with_reducible repeat (first | refine blk_drewN ?_ _ | refine blk_drew ?_ | refine blk_alloc ?_ _)); exact BK463.out) hb); have n2_ := Aside0.mk (Kept.below (S := (fun k_ => P0_1_ k_)) (by repeat (first | (with_reducible first | exact HK.out | apply Kept.alloc | apply Kept.drewN | apply Kept.drew | refine Kept.setCell ?_ (.inr GW463.out) _) | exact HK.out)) hb); have n3_ := Aside0.mk (below_step (by repeat (first | (with_reducible first | exact HB.out | apply below_alloc | apply pw_below_drewN | apply below_drew1 | refine below_set ?_ GE463.out) | exact HB.out)) hb); have n4_ := Aside0.mk (hbox); have n5_ := Aside0.mk ((by rw [hg]; exact (by first | exact HK.out.1 | exact (show Kept w _ (fun k_ => P0_1_ k_) from by repeat (first | (with_reducible first | exact HK.out | apply Kept.alloc | apply Kept.drewN | apply Kept.drew | refine Kept.setCell ?_ (.inr GW463.out) _) | exact HK.out)).1) : w.heap.size ≤ gb464)); have n6_ := Aside0.mk ((by rw [hg]; exact (below_size (by repeat (first | (with_reducible first | exact HB.out | apply below_alloc | apply pw_below_drewN | apply below_drew1 | refine below_set ?_ GE463.out) | exact HB.out))) : w0.heap.size ≤ gb464)); have n7_ := Aside0.mk ((by rw [hg]; exact Nat.ne_of_lt (blk_lt (g := gb463) (o := .cells #[.int .i64 a0_0, .slice Ao5 l0_1.length co5, .bool a0_2, .int .i64 a0_3] 36 (0, 0)) (by (with_reducible repeat (first | refine blk_drewN ?_ _ | refine blk_drew ?_ | refine blk_alloc ?_ _)); exact BK463.out)) : gb463 ≠ gb464)); have n8_ := Aside0.mk ((by rw [hg]; exact Nat.ne_of_gt (blk_lt (g := gb463) (o := .cells #[.int .i64 a0_0, .slice Ao5 l0_1.length co5, .bool a0_2, .int .i64 a0_3] 36 (0, 0)) (by (with_reducible repeat (first | refine blk_drewN ?_ _ | refine blk_drew ?_ | refine blk_alloc ?_ _)); exact BK463.out)) : gb464 ≠ gb463)); clear HO0_1; clear BK463; clear HK; clear HB; have HO0_1 := n0_; have BK463 := n1_; have HK := n2_; have HB := n3_; have BK464 := n4_; have GW464 := n5_; have GE464 := n6_; have NB463_464 := n7_; have NB464_463 := n8_; clear n0_ n1_ n2_ n3_ n4_ n5_ n6_ n7_ n8_; clear hb hbox hg) | ((with_reducible refine gate_dst (N := 4) rfl ?_); refine box_event ?hg (N := 4) ?hd (cs := #[.int .i64 0, .slice none 0 0, .bool false, .int .i64 0]) (t := 36) ?hr ?_; (case hd => rfl); (case hg => rfl); (case hr => first | (go_simp; done) | (go_simp; rfl)); intro gb465 hg w8 hbox hb; have n0_ := Aside0.mk (Kd.R_below (by (with_reducible repeat (first | apply Kd.R_alloc | apply Kd.R_drewN | apply Kd.R_drew)); exact HO0_1.out) hb); have n1_ := Aside0.mk (blk_below (g := gb463) (o := .cells #[.int .i64 a0_0, .slice Ao5 l0_1.length co5, .bool a0_2, .int .i64 a0_3] 36 (0, 0)) (by (with_reducible repeat (first | refine blk_drewN ?_ _ | refine blk_drew ?_ | refine blk_alloc ?_ _)); exact BK463.out) hb); have n2_ := Aside0.mk (blk_below (g := gb464) (o := .cells #[.int .i64 a1_0, .int .i64 a1_1, .int .i64 a1_2] 38 (0, 0)) (by (with_reducible repeat (first | refine blk_drewN ?_ _ | refine blk_drew ?_ | refine blk_alloc ?_ _)); exact BK464.out) hb); have n3_ := Aside0.mk (Kept.below (S := (fun k_ => P0_1_ k_)) (by repeat (first | (with_reducible first | exact HK.out | apply Kept.alloc | apply Kept.drewN | apply Kept.drew | refine Kept.setCell ?_ (.inr GW463.out) _ | refine Kept.setCell ?_ (.inr GW464.out) _) | exact HK.out)) hb); have n4_ := Aside0.mk (below_step (by repeat (first | (with_reducible first | exact HB.out | apply below_alloc | apply pw_below_drewN | apply below_drew1 | refine below_set ?_ GE463.out | refine below_set ?_ GE464.out) | exact HB.out)) hb); have n5_ := Aside0.mk (hbox); have n6_ := Aside0.mk ((by rw [hg]; exact (by first | exact HK.out.1 | exact (show Kept w _ (fun k_ => P0_1_ k_) from by repeat (first | (with_reducible first | exact HK.out | apply Kept.alloc | apply Kept.drewN | apply Kept.drew | refine Kept.setCell ?_ (.inr GW463.out) _ | refine Kept.setCell ?_ (.inr GW464.out) _) | exact HK.out)).1) : w.heap.size ≤ gb465)); have n7_ := Aside0.mk ((by rw [hg]; exact (below_size (by repeat (first | (with_reducible first | exact HB.out | apply below_alloc | apply pw_below_drewN | apply below_drew1 | refine below_set ?_ GE463.out | refine below_set ?_ GE464.out) | exact HB.out))) : w0.heap.size ≤ gb465)); have n8_ := Aside0.mk ((by rw [hg]; exact Nat.ne_of_lt (blk_lt (g := gb463) (o := .cells #[.int .i64 a0_0, .slice Ao5 l0_1.length co5, .bool a0_2, .int .i64 a0_3] 36 (0, 0)) (by (with_reducible repeat (first | refine blk_drewN ?_ _ | refine blk_drew ?_ | refine blk_alloc ?_ _)); exact BK463.out)) : gb463 ≠ gb465)); have n9_ := Aside0.mk ((by rw [hg]; exact Nat.ne_of_gt (blk_lt (g := gb463) (o := .cells #[.int .i64 a0_0, .slice Ao5 l0_1.length co5, .bool a0_2, .int .i64 a0_3] 36 (0, 0)) (by (with_reducible repeat (first | refine blk_drewN ?_ _ | refine blk_drew ?_ | refine blk_alloc ?_ _)); exact BK463.out)) : gb465 ≠ gb463)); have n10_ := Aside0.mk ((by rw [hg]; exact Nat.ne_of_lt (blk_lt (g := gb464) (o := .cells #[.int .i64 a1_0, .int .i64 a1_1, .int .i64 a1_2] 38 (0, 0)) (by (with_reducible repeat (first | refine blk_drewN ?_ _ | refine blk_drew ?_ | refine blk_alloc ?_ _)); exact BK464.out)) : gb464 ≠ gb465)); have n11_ := Aside0.mk ((by rw [hg]; exact Nat.ne_of_gt (blk_lt (g := gb464) (o := .cells #[.int .i64 a1_0, .int .i64 a1_1, .int .i64 a1_2] 38 (0, 0)) (by (with_reducible repeat (first | refine blk_drewN ?_ _ | refine blk_drew ?_ | refine blk_alloc ?_ _)); exact BK464.out)) : gb465 ≠ gb464)); clear HO0_1; clear BK463; clear BK464; clear HK; clear HB; have HO0_1 := n0_; have BK463 := n1_; have BK464 := n2_; have HK := n3_; have HB := n4_; have BK465 := n5_; have GW465 := n6_; have GE465 := n7_; have NB463_465 := n8_; have NB465_463 := n9_; have NB464_465 := n10_; have NB465_464 := n11_; clear n0_ n1_ n2_ n3_ n4_ n5_ n6_ n7_ n8_ n9_ n10_ n11_; clear hb hbox hg; have hnb9 := NB463_464.out; have hnc9 := NB464_463.out; have hnb10 := NB463_465.out; have hnc10 := NB465_463.out; have hcz11_0 : w8.cell? ⟨gb463, 0, none⟩ = some (.int .i64 a0_0) := (blk_cell BK463.out 0).trans rfl; have hcz11_1 : w8.cell? ⟨gb463, 1, none⟩ = some (.slice Ao5 l0_1.length co5) := (blk_cell BK463.out 1).trans rfl; have hcz11_2 : w8.cell? ⟨gb463, 2, none⟩ = some (.bool a0_2) := (blk_cell BK463.out 2).trans rfl; have hcz11_3 : w8.cell? ⟨gb463, 3, none⟩ = some (.int .i64 a0_3) := (blk_cell BK463.out 3).trans rfl; have hfz11_0 := blk_frozen BK463.out 0; have hfz11_1 := blk_frozen BK463.out 1; have hfz11_2 := blk_frozen BK463.out 2; have hfz11_3 := blk_frozen BK463.out 3; have p466 : 0 ≤ (0 : Int) := (by omega); have q466 : 0 < (l0_1.length : Int) := of_decide_eq_true (by first | (with_reducible assumption) | assumption); obtain ⟨ad466, e466, hx466_0⟩ := Kd.at_int (Kd.R_reads' HO0_1.out).2.2 0 p466 q466; cases e466; have qi466 : (0 < l0_1.length) = True := eq_true (by omega); (try rw [show ((0 : Int)).toNat = 0 from rfl] at hx466_0); (try rw [Addr.add_zero'] at hx466_0); replace p466 := eq_true p466; replace q466 := eq_true q466; have hnb12 := NB464_465.out; have hnc12 := NB465_464.out; have hcz13_0 : w8.cell? ⟨gb464, 0, none⟩ = some (.int .i64 a1_0) := (blk_cell BK464.out 0).trans rfl; have hcz13_1 : w8.cell? ⟨gb464, 1, none⟩ = some (.int .i64 a1_1) := (blk_cell BK464.out 1).trans rfl; have hcz13_2 : w8.cell? ⟨gb464, 2, none⟩ = some (.int .i64 a1_2) := (blk_cell BK464.out 2).trans rfl; have hfz13_0 := blk_frozen BK464.out 0; have hfz13_1 := blk_frozen BK464.out 1; have hfz13_2 := blk_frozen BK464.out 2; have hcz14_0 : w8.cell? ⟨gb465, 0, none⟩ = some (.int .i64 0) := (blk_cell BK465.out 0).trans rfl; have hcz14_1 : w8.cell? ⟨gb465, 1, none⟩ = some (.slice none 0 0) := (blk_cell BK465.out 1).trans rfl; have hcz14_2 : w8.cell? ⟨gb465, 2, none⟩ = some (.bool false) := (blk_cell BK465.out 2).trans rfl; have hcz14_3 : w8.cell? ⟨gb465, 3, none⟩ = some (.int .i64 0) := (blk_cell BK465.out 3).trans rfl; have hfz14_0 := blk_frozen BK465.out 0; have hfz14_1 := blk_frozen BK465.out 1; have hfz14_2 := blk_frozen BK465.out 2; have hfz14_3 := blk_frozen BK465.out 3))
      refine bodyPost_ret (results_ct rfl _ _ gb465 36 #[.int .i64 a0_0, .slice (some ad466) l0_1.length co5, .bool a0_2, .int .i64 a0_3] (0, 0) _ rfl (by (with_reducible repeat (first | refine blk_drewN ?_ _ | refine blk_drew ?_ | refine blk_alloc ?_ _)); refine blk_put (cs := #[.int .i64 a0_0, .slice (some ad466) l0_1.length co5, .bool a0_2, .int .i64 0]) ?_ 3 _ (by first | rfl | (simp only [gt_iff_lt, *]; rfl) | (simp [*]; done)); (with_reducible repeat (first | refine blk_drewN ?_ _ | refine blk_drew ?_ | refine blk_alloc ?_ _)); refine blk_put (cs := #[.int .i64 a0_0, .slice (some ad466) l0_1.length co5, .bool false, .int .i64 0]) ?_ 2 _ (by first | rfl | (simp only [gt_iff_lt, *]; rfl) | (simp [*]; done)); (with_reducible repeat (first | refine blk_drewN ?_ _ | refine blk_drew ?_ | refine blk_alloc ?_ _)); refine blk_put (cs := #[.int .i64 a0_0, .slice none 0 0, .bool false, .int .i64 0]) ?_ 1 _ (by first | rfl | (simp only [gt_iff_lt, *]; rfl) | (simp [*]; done)); (with_reducible repeat (first | refine blk_drewN ?_ _ | refine blk_drew ?_ | refine blk_alloc ?_ _)); refine blk_put (cs := #[.int .i64 0, .slice none 0 0, .bool false, .int .i64 0]) ?_ 0 _ (by first | rfl | (simp only [gt_iff_lt, *]; rfl) | (simp [*]; done)); (with_reducible repeat (first | refine blk_drewN ?_ _ | refine blk_drew ?_ | refine blk_alloc ?_ _)); exact BK465.out) Tryz.underlying36 rfl (by kernel_rfl)) rfl ?_
      exact ⟨_, by first | rfl | (simp [errW_none, errW_some] <;> rfl) | (simp [*, errW_none, errW_some] <;> rfl), by (with_reducible repeat (first | apply Kd.R_alloc | apply Kd.R_drewN | apply Kd.R_drew)); exact Kd.R_mono (Kd.R_far (p := ⟨gb465, 3, none⟩) (Kd.R_far (p := ⟨gb465, 2, none⟩) (Kd.R_far (p := ⟨gb465, 1, none⟩) (Kd.R_far (p := ⟨gb465, 0, none⟩) (Kd.R_types HO0_1.out BK465.out (by decide)) (fun _ hk => hk.2) (.int .i64 a0_0)) (fun _ hk => hk.2) (.slice (some ad466) l0_1.length co5)) (fun _ hk => hk.2) (.bool a0_2)) (fun _ hk => hk.2) (.int .i64 a0_3)) (fun _ hk => hk.1), by repeat (first | (with_reducible first | exact HB.out | apply below_alloc | apply pw_below_drewN | apply below_drew1 | refine below_set ?_ GE463.out | refine below_set ?_ GE464.out | refine below_set ?_ GE465.out) | exact HB.out), by repeat (first | (with_reducible first | exact HK.out | apply Kept.alloc | apply Kept.drewN | apply Kept.drew | refine Kept.setCell ?_ (.inr GW463.out) _ | refine Kept.setCell ?_ (.inr GW464.out) _ | refine Kept.setCell ?_ (.inr GW465.out) _) | exact HK.out)⟩
    · rw [if_neg c4] at H
      have c4b0 : (a1_0 == 7) = false := beq_eq_false_iff_ne.mpr c4
      have c4b1 : (a1_0 != 7) = true := bne_iff_ne.mpr c4
      have HC15 := Aside0.mk H
      clear H
      obtain ⟨Ao16, co16, eo16⟩ := Kd.R_slice HO0_1.out
      subst eo16
      go_enter Tryz.func163, Tryz.ntmps163
      go_upto_region 4 with (first | ((with_reducible refine gate_dst (N := 2) rfl ?_); refine box_event ?hg (N := 2) ?hd (cs := #[.int .i64 a0_0, .slice Ao16 l0_1.length co16, .bool a0_2, .int .i64 a0_3]) (t := 36) ?hr ?_; (case hd => rfl); (case hg => rfl); (case hr => first | (go_simp; done) | (go_simp; rfl)); intro gb463 hg w17 hbox hb; have n0_ := Aside0.mk (Kd.R_below (by (with_reducible repeat (first | apply Kd.R_alloc | apply Kd.R_drewN | apply Kd.R_drew)); exact HO0_1.out) hb); have n1_ := Aside0.mk (Kept.below (S := (fun k_ => P0_1_ k_)) (by repeat (first | (with_reducible first | exact HK.out | apply Kept.alloc | apply Kept.drewN | apply Kept.drew) | exact HK.out)) hb); have n2_ := Aside0.mk (below_step (by repeat (first | (with_reducible first | exact HB.out | apply below_alloc | apply pw_below_drewN | apply below_drew1) | exact HB.out)) hb); have n3_ := Aside0.mk (hbox); have n4_ := Aside0.mk ((by rw [hg]; exact (by first | exact HK.out.1 | exact (show Kept w _ (fun k_ => P0_1_ k_) from by repeat (first | (with_reducible first | exact HK.out | apply Kept.alloc | apply Kept.drewN | apply Kept.drew) | exact HK.out)).1) : w.heap.size ≤ gb463)); have n5_ := Aside0.mk ((by rw [hg]; exact (below_size (by repeat (first | (with_reducible first | exact HB.out | apply below_alloc | apply pw_below_drewN | apply below_drew1) | exact HB.out))) : w0.heap.size ≤ gb463)); clear HO0_1; clear HK; clear HB; have HO0_1 := n0_; have HK := n1_; have HB := n2_; have BK463 := n3_; have GW463 := n4_; have GE463 := n5_; clear n0_ n1_ n2_ n3_ n4_ n5_; clear hb hbox hg) | ((with_reducible refine gate_dst (N := 3) rfl ?_); refine box_event ?hg (N := 3) ?hd (cs := #[.int .i64 a1_0, .int .i64 a1_1, .int .i64 a1_2]) (t := 38) ?hr ?_; (case hd => rfl); (case hg => rfl); (case hr => first | (go_simp; done) | (go_simp; rfl)); intro gb464 hg w18 hbox hb; have n0_ := Aside0.mk (Kd.R_below (by (with_reducible repeat (first | apply Kd.R_alloc | apply Kd.R_drewN | apply Kd.R_drew)); exact HO0_1.out) hb); have n1_ := Aside0.mk (blk_below (g := gb463) (o := .cells #[.int .i64 a0_0, .slice Ao16 l0_1.length co16, .bool a0_2, .int .i64 a0_3] 36 (0, 0)) (by (with_reducible repeat (first | refine blk_drewN ?_ _ | refine blk_drew ?_ | refine blk_alloc ?_ _)); exact BK463.out) hb); have n2_ := Aside0.mk (Kept.below (S := (fun k_ => P0_1_ k_)) (by repeat (first | (with_reducible first | exact HK.out | apply Kept.alloc | apply Kept.drewN | apply Kept.drew | refine Kept.setCell ?_ (.inr GW463.out) _) | exact HK.out)) hb); have n3_ := Aside0.mk (below_step (by repeat (first | (with_reducible first | exact HB.out | apply below_alloc | apply pw_below_drewN | apply below_drew1 | refine below_set ?_ GE463.out) | exact HB.out)) hb); have n4_ := Aside0.mk (hbox); have n5_ := Aside0.mk ((by rw [hg]; exact (by first | exact HK.out.1 | exact (show Kept w _ (fun k_ => P0_1_ k_) from by repeat (first | (with_reducible first | exact HK.out | apply Kept.alloc | apply Kept.drewN | apply Kept.drew | refine Kept.setCell ?_ (.inr GW463.out) _) | exact HK.out)).1) : w.heap.size ≤ gb464)); have n6_ := Aside0.mk ((by rw [hg]; exact (below_size (by repeat (first | (with_reducible first | exact HB.out | apply below_alloc | apply pw_below_drewN | apply below_drew1 | refine below_set ?_ GE463.out) | exact HB.out))) : w0.heap.size ≤ gb464)); have n7_ := Aside0.mk ((by rw [hg]; exact Nat.ne_of_lt (blk_lt (g := gb463) (o := .cells #[.int .i64 a0_0, .slice Ao16 l0_1.length co16, .bool a0_2, .int .i64 a0_3] 36 (0, 0)) (by (with_reducible repeat (first | refine blk_drewN ?_ _ | refine blk_drew ?_ | refine blk_alloc ?_ _)); exact BK463.out)) : gb463 ≠ gb464)); have n8_ := Aside0.mk ((by rw [hg]; exact Nat.ne_of_gt (blk_lt (g := gb463) (o := .cells #[.int .i64 a0_0, .slice Ao16 l0_1.length co16, .bool a0_2, .int .i64 a0_3] 36 (0, 0)) (by (with_reducible repeat (first | refine blk_drewN ?_ _ | refine blk_drew ?_ | refine blk_alloc ?_ _)); exact BK463.out)) : gb464 ≠ gb463)); clear HO0_1; clear BK463; clear HK; clear HB; have HO0_1 := n0_; have BK463 := n1_; have HK := n2_; have HB := n3_; have BK464 := n4_; have GW464 := n5_; have GE464 := n6_; have NB463_464 := n7_; have NB464_463 := n8_; clear n0_ n1_ n2_ n3_ n4_ n5_ n6_ n7_ n8_; clear hb hbox hg) | ((with_reducible refine gate_dst (N := 4) rfl ?_); refine box_event ?hg (N := 4) ?hd (cs := #[.int .i64 0, .slice none 0 0, .bool false, .int .i64 0]) (t := 36) ?hr ?_; (case hd => rfl); (case hg => rfl); (case hr => first | (go_simp; done) | (go_simp; rfl)); intro gb465 hg w19 hbox hb; have n0_ := Aside0.mk (Kd.R_below (by (with_reducible repeat (first | apply Kd.R_alloc | apply Kd.R_drewN | apply Kd.R_drew)); exact HO0_1.out) hb); have n1_ := Aside0.mk (blk_below (g := gb463) (o := .cells #[.int .i64 a0_0, .slice Ao16 l0_1.length co16, .bool a0_2, .int .i64 a0_3] 36 (0, 0)) (by (with_reducible repeat (first | refine blk_drewN ?_ _ | refine blk_drew ?_ | refine blk_alloc ?_ _)); exact BK463.out) hb); have n2_ := Aside0.mk (blk_below (g := gb464) (o := .cells #[.int .i64 a1_0, .int .i64 a1_1, .int .i64 a1_2] 38 (0, 0)) (by (with_reducible repeat (first | refine blk_drewN ?_ _ | refine blk_drew ?_ | refine blk_alloc ?_ _)); exact BK464.out) hb); have n3_ := Aside0.mk (Kept.below (S := (fun k_ => P0_1_ k_)) (by repeat (first | (with_reducible first | exact HK.out | apply Kept.alloc | apply Kept.drewN | apply Kept.drew | refine Kept.setCell ?_ (.inr GW463.out) _ | refine Kept.setCell ?_ (.inr GW464.out) _) | exact HK.out)) hb); have n4_ := Aside0.mk (below_step (by repeat (first | (with_reducible first | exact HB.out | apply below_alloc | apply pw_below_drewN | apply below_drew1 | refine below_set ?_ GE463.out | refine below_set ?_ GE464.out) | exact HB.out)) hb); have n5_ := Aside0.mk (hbox); have n6_ := Aside0.mk ((by rw [hg]; exact (by first | exact HK.out.1 | exact (show Kept w _ (fun k_ => P0_1_ k_) from by repeat (first | (with_reducible first | exact HK.out | apply Kept.alloc | apply Kept.drewN | apply Kept.drew | refine Kept.setCell ?_ (.inr GW463.out) _ | refine Kept.setCell ?_ (.inr GW464.out) _) | exact HK.out)).1) : w.heap.size ≤ gb465)); have n7_ := Aside0.mk ((by rw [hg]; exact (below_size (by repeat (first | (with_reducible first | exact HB.out | apply below_alloc | apply pw_below_drewN | apply below_drew1 | refine below_set ?_ GE463.out | refine below_set ?_ GE464.out) | exact HB.out))) : w0.heap.size ≤ gb465)); have n8_ := Aside0.mk ((by rw [hg]; exact Nat.ne_of_lt (blk_lt (g := gb463) (o := .cells #[.int .i64 a0_0, .slice Ao16 l0_1.length co16, .bool a0_2, .int .i64 a0_3] 36 (0, 0)) (by (with_reducible repeat (first | refine blk_drewN ?_ _ | refine blk_drew ?_ | refine blk_alloc ?_ _)); exact BK463.out)) : gb463 ≠ gb465)); have n9_ := Aside0.mk ((by rw [hg]; exact Nat.ne_of_gt (blk_lt (g := gb463) (o := .cells #[.int .i64 a0_0, .slice Ao16 l0_1.length co16, .bool a0_2, .int .i64 a0_3] 36 (0, 0)) (by (with_reducible repeat (first | refine blk_drewN ?_ _ | refine blk_drew ?_ | refine blk_alloc ?_ _)); exact BK463.out)) : gb465 ≠ gb463)); have n10_ := Aside0.mk ((by rw [hg]; exact Nat.ne_of_lt (blk_lt (g := gb464) (o := .cells #[.int .i64 a1_0, .int .i64 a1_1, .int .i64 a1_2] 38 (0, 0)) (by (with_reducible repeat (first | refine blk_drewN ?_ _ | refine blk_drew ?_ | refine blk_alloc ?_ _)); exact BK464.out)) : gb464 ≠ gb465)); have n11_ := Aside0.mk ((by rw [hg]; exact Nat.ne_of_gt (blk_lt (g := gb464) (o := .cells #[.int .i64 a1_0, .int .i64 a1_1, .int .i64 a1_2] 38 (0, 0)) (by (with_reducible repeat (first | refine blk_drewN ?_ _ | refine blk_drew ?_ | refine blk_alloc ?_ _)); exact BK464.out)) : gb465 ≠ gb464)); clear HO0_1; clear BK463; clear BK464; clear HK; clear HB; have HO0_1 := n0_; have BK463 := n1_; have BK464 := n2_; have HK := n3_; have HB := n4_; have BK465 := n5_; have GW465 := n6_; have GE465 := n7_; have NB463_465 := n8_; have NB465_463 := n9_; have NB464_465 := n10_; have NB465_464 := n11_; clear n0_ n1_ n2_ n3_ n4_ n5_ n6_ n7_ n8_ n9_ n10_ n11_; clear hb hbox hg; have hnb20 := NB463_464.out; have hnc20 := NB464_463.out; have hnb21 := NB463_465.out; have hnc21 := NB465_463.out; have hcz22_0 : w19.cell? ⟨gb463, 0, none⟩ = some (.int .i64 a0_0) := (blk_cell BK463.out 0).trans rfl; have hcz22_1 : w19.cell? ⟨gb463, 1, none⟩ = some (.slice Ao16 l0_1.length co16) := (blk_cell BK463.out 1).trans rfl; have hcz22_2 : w19.cell? ⟨gb463, 2, none⟩ = some (.bool a0_2) := (blk_cell BK463.out 2).trans rfl; have hcz22_3 : w19.cell? ⟨gb463, 3, none⟩ = some (.int .i64 a0_3) := (blk_cell BK463.out 3).trans rfl; have hfz22_0 := blk_frozen BK463.out 0; have hfz22_1 := blk_frozen BK463.out 1; have hfz22_2 := blk_frozen BK463.out 2; have hfz22_3 := blk_frozen BK463.out 3; have p466 : 0 ≤ (0 : Int) := (by omega); have q466 : 0 < (l0_1.length : Int) := of_decide_eq_true (by first | (with_reducible assumption) | assumption); obtain ⟨ad466, e466, hx466_0⟩ := Kd.at_int (Kd.R_reads' HO0_1.out).2.2 0 p466 q466; cases e466; have qi466 : (0 < l0_1.length) = True := eq_true (by omega); (try rw [show ((0 : Int)).toNat = 0 from rfl] at hx466_0); (try rw [Addr.add_zero'] at hx466_0); replace p466 := eq_true p466; replace q466 := eq_true q466; have hnb23 := NB464_465.out; have hnc23 := NB465_464.out; have hcz24_0 : w19.cell? ⟨gb464, 0, none⟩ = some (.int .i64 a1_0) := (blk_cell BK464.out 0).trans rfl; have hcz24_1 : w19.cell? ⟨gb464, 1, none⟩ = some (.int .i64 a1_1) := (blk_cell BK464.out 1).trans rfl; have hcz24_2 : w19.cell? ⟨gb464, 2, none⟩ = some (.int .i64 a1_2) := (blk_cell BK464.out 2).trans rfl; have hfz24_0 := blk_frozen BK464.out 0; have hfz24_1 := blk_frozen BK464.out 1; have hfz24_2 := blk_frozen BK464.out 2))
      (try simp only [Act.put, List.setIfInBounds_toArray, List.set_cons_zero, List.set_cons_succ])
      go_cut [17] (fun v17 wc => ∃ (kq : Nat) (x17_14 : Bool), v17 = .bool x17_14 ∧ Aside0 (objs_number.j0 kq (rd l0_1 0) x17_14 a0_0 l0_1 a0_2 a0_3 a1_0 a1_1 a1_2 = some (r1, r2, r3, r4, r5)) ∧ Aside0 (kq ≤ k) ∧ Aside0 (Kd.R (Kd.int .i64) 3 wc w0.heap.size (fun k_ => (P0_1_ k_ ∨ w.heap.size ≤ k_)) (.slice (some ad466) l0_1.length co16) l0_1) ∧ Aside0 (wc.heap[gb463]? = some (.cells #[.int .i64 a0_0, (.slice (some ad466) l0_1.length co16), .bool a0_2, .int .i64 a0_3] 36 (0, 0))) ∧ Aside0 (wc.heap[gb464]? = some (.cells #[.int .i64 a1_0, .int .i64 a1_1, .int .i64 a1_2] 38 (0, 0))) ∧ Aside0 (wc.heap[gb465]? = some (.cells #[.int .i64 0, (.slice none 0 0), .bool false, .int .i64 0] 36 (0, 0))) ∧ Aside0 (Kept w wc (fun k_ => P0_1_ k_)) ∧ Aside0 (Below w0.heap.size w0 wc))
      case first =>
        have H := HC15.out
        clear HC15
        by_cases c25 : a0_0 = 0
        · rw [if_pos c25] at H
          have c25b0 : (a0_0 == 0) = true := beq_iff_eq.mpr c25
          have c25b1 : (a0_0 != 0) = false := bne_eq_false_iff_eq.mpr c25
          clear c25
          (first | rw [c25b0] | rw [c25b1] | (simp only [i64_w, i32_w]; rw [c25b0]) | skip)
          have H' := Aside0.mk H
          clear H
          have hnb26 := NB463_464.out
          have hnc26 := NB464_463.out
          have hnb27 := NB463_465.out
          have hnc27 := NB465_463.out
          have hcz28_0 : w19.cell? ⟨gb463, 0, none⟩ = some (.int .i64 a0_0) := (blk_cell BK463.out 0).trans rfl
          have hcz28_1 : w19.cell? ⟨gb463, 1, none⟩ = some (.slice (some ad466) l0_1.length co16) := (blk_cell BK463.out 1).trans rfl
          have hcz28_2 : w19.cell? ⟨gb463, 2, none⟩ = some (.bool a0_2) := (blk_cell BK463.out 2).trans rfl
          have hcz28_3 : w19.cell? ⟨gb463, 3, none⟩ = some (.int .i64 a0_3) := (blk_cell BK463.out 3).trans rfl
          have hfz28_0 := blk_frozen BK463.out 0
          have hfz28_1 := blk_frozen BK463.out 1
          have hfz28_2 := blk_frozen BK463.out 2
          have hfz28_3 := blk_frozen BK463.out 3
          have hnb29 := NB464_465.out
          have hnc29 := NB465_464.out
          have hcz30_0 : w19.cell? ⟨gb464, 0, none⟩ = some (.int .i64 a1_0) := (blk_cell BK464.out 0).trans rfl
          have hcz30_1 : w19.cell? ⟨gb464, 1, none⟩ = some (.int .i64 a1_1) := (blk_cell BK464.out 1).trans rfl
          have hcz30_2 : w19.cell? ⟨gb464, 2, none⟩ = some (.int .i64 a1_2) := (blk_cell BK464.out 2).trans rfl
          have hfz30_0 := blk_frozen BK464.out 0
          have hfz30_1 := blk_frozen BK464.out 1
          have hfz30_2 := blk_frozen BK464.out 2
          go_wp2
          go_meet
          case rel => exact ⟨_, ((a1_0 == 1)), (by first | rfl | (simp; done) | (simp [*]; done)), H', ⟨by first | omega | exact Nat.le_refl _⟩, ⟨by (with_reducible repeat (first | apply Kd.R_alloc | apply Kd.R_drewN | apply Kd.R_drew)); exact HO0_1.out⟩, ⟨by (with_reducible repeat (first | refine blk_drewN ?_ _ | refine blk_drew ?_ | refine blk_alloc ?_ _)); exact BK463.out⟩, ⟨by (with_reducible repeat (first | refine blk_drewN ?_ _ | refine blk_drew ?_ | refine blk_alloc ?_ _)); exact BK464.out⟩, ⟨by (with_reducible repeat (first | refine blk_drewN ?_ _ | refine blk_drew ?_ | refine blk_alloc ?_ _)); exact BK465.out⟩, ⟨by repeat (first | (with_reducible first | exact HK.out | apply Kept.alloc | apply Kept.drewN | apply Kept.drew | refine Kept.setCell ?_ (.inr GW463.out) _ | refine Kept.setCell ?_ (.inr GW464.out) _ | refine Kept.setCell ?_ (.inr GW465.out) _) | exact HK.out)⟩, ⟨by repeat (first | (with_reducible first | exact HB.out | apply below_alloc | apply pw_below_drewN | apply below_drew1 | refine below_set ?_ GE463.out | refine below_set ?_ GE464.out | refine below_set ?_ GE465.out) | exact HB.out)⟩⟩
        · rw [if_neg c25] at H
          have c25b0 : (a0_0 == 0) = false := beq_eq_false_iff_ne.mpr c25
          have c25b1 : (a0_0 != 0) = true := bne_iff_ne.mpr c25
          (first | rw [c25b0] | rw [c25b1] | (simp only [i64_w, i32_w]; rw [c25b0]) | skip)
          have H' := Aside0.mk H
          clear H
          have hnb31 := NB463_464.out
          have hnc31 := NB464_463.out
          have hnb32 := NB463_465.out
          have hnc32 := NB465_463.out
          have hcz33_0 : w19.cell? ⟨gb463, 0, none⟩ = some (.int .i64 a0_0) := (blk_cell BK463.out 0).trans rfl
          have hcz33_1 : w19.cell? ⟨gb463, 1, none⟩ = some (.slice (some ad466) l0_1.length co16) := (blk_cell BK463.out 1).trans rfl
          have hcz33_2 : w19.cell? ⟨gb463, 2, none⟩ = some (.bool a0_2) := (blk_cell BK463.out 2).trans rfl
          have hcz33_3 : w19.cell? ⟨gb463, 3, none⟩ = some (.int .i64 a0_3) := (blk_cell BK463.out 3).trans rfl
          have hfz33_0 := blk_frozen BK463.out 0
          have hfz33_1 := blk_frozen BK463.out 1
          have hfz33_2 := blk_frozen BK463.out 2
          have hfz33_3 := blk_frozen BK463.out 3
          go_wp2
          go_meet
          case rel => exact ⟨_, (false), (by first | rfl | (simp; done) | (simp [*]; done)), H', ⟨by first | omega | exact Nat.le_refl _⟩, ⟨by (with_reducible repeat (first | apply Kd.R_alloc | apply Kd.R_drewN | apply Kd.R_drew)); exact HO0_1.out⟩, ⟨by (with_reducible repeat (first | refine blk_drewN ?_ _ | refine blk_drew ?_ | refine blk_alloc ?_ _)); exact BK463.out⟩, ⟨by (with_reducible repeat (first | refine blk_drewN ?_ _ | refine blk_drew ?_ | refine blk_alloc ?_ _)); exact BK464.out⟩, ⟨by (with_reducible repeat (first | refine blk_drewN ?_ _ | refine blk_drew ?_ | refine blk_alloc ?_ _)); exact BK465.out⟩, ⟨by repeat (first | (with_reducible first | exact HK.out | apply Kept.alloc | apply Kept.drewN | apply Kept.drew | refine Kept.setCell ?_ (.inr GW463.out) _ | refine Kept.setCell ?_ (.inr GW464.out) _ | refine Kept.setCell ?_ (.inr GW465.out) _) | exact HK.out)⟩, ⟨by repeat (first | (with_reducible first | exact HB.out | apply below_alloc | apply pw_below_drewN | apply below_drew1 | refine below_set ?_ GE463.out | refine below_set ?_ GE464.out | refine below_set ?_ GE465.out) | exact HB.out)⟩⟩
      case rest =>
        clear HC15
        try clear c1
        try clear c2
        try clear p2
        try clear c3
        try clear c3b0
        try clear c3b1
        try clear c4
        try clear c4b0
        try clear c4b1
        try clear p4
        try clear q4
        try clear hx4
        try clear qi4
        try clear c9
        try clear c10
        try clear c12
        try clear c16
        try clear c20
        try clear c21
        try clear c23
        try clear c25
        try clear c25b0
        try clear c25b1
        try clear c26
        try clear c27
        try clear c29
        try clear c31
        try clear c32
        try clear hcz11_0
        try clear hcz11_1
        try clear hcz11_2
        try clear hcz11_3
        try clear hcz13_0
        try clear hcz13_1
        try clear hcz13_2
        try clear hcz14_0
        try clear hcz14_1
        try clear hcz14_2
        try clear hcz14_3
        try clear hcz22_0
        try clear hcz22_1
        try clear hcz22_2
        try clear hcz22_3
        try clear hcz24_0
        try clear hcz24_1
        try clear hcz24_2
        try clear hcz28_0
        try clear hcz28_1
        try clear hcz28_2
        try clear hcz28_3
        try clear hcz30_0
        try clear hcz30_1
        try clear hcz30_2
        try clear hcz33_0
        try clear hcz33_1
        try clear hcz33_2
        try clear hcz33_3
        try clear hfz11_0
        try clear hfz11_1
        try clear hfz11_2
        try clear hfz11_3
        try clear hfz13_0
        try clear hfz13_1
        try clear hfz13_2
        try clear hfz14_0
        try clear hfz14_1
        try clear hfz14_2
        try clear hfz14_3
        try clear hfz22_0
        try clear hfz22_1
        try clear hfz22_2
        try clear hfz22_3
        try clear hfz24_0
        try clear hfz24_1
        try clear hfz24_2
        try clear hfz28_0
        try clear hfz28_1
        try clear hfz28_2
        try clear hfz28_3
        try clear hfz30_0
        try clear hfz30_1
        try clear hfz30_2
        try clear hfz33_0
        try clear hfz33_1
        try clear hfz33_2
        try clear hfz33_3
        try clear hx466_0
        try clear p466
        try clear q466
        obtain ⟨kq, x17_14, rfl, HA, HJ14, HO_464001, BK463, BK464, BK465, HK, HB⟩ := hcut
        cases kq with
        | zero => exact absurd HA.out (by simp [objs_number.j0])
        | succ kj14 =>
          have H := HA.out
          clear HA
          simp only [objs_number.j0] at H
          by_cases c34 : x17_14 = true
          · subst c34
            have H1 : ((objs_cut.f a1_1).bind fun t467 => ((objs_cut.f (wrap64 ((rd l0_1 0) + t467))).bind fun t468 => (some (a0_0, (([t468] : List Int)), a0_2, a0_3, (rd l0_1 0))))) = some (r1, r2, r3, r4, r5) := by rw [if_pos rfl] at H; exact H
            clear H
            have H := H1
            clear H1
            replace H := Option.bind_eq_some_iff.mp H
            obtain ⟨t467, A350, H⟩ := H
            replace H : ((objs_cut.f (wrap64 ((rd l0_1 0) + t467))).bind fun t468 => (some (a0_0, (([t468] : List Int)), a0_2, a0_3, (rd l0_1 0)))) = some (r1, r2, r3, r4, r5) := H
            have A35 := Aside0.mk A350
            clear A350
            replace H := Option.bind_eq_some_iff.mp H
            obtain ⟨t468, A360, H⟩ := H
            replace H : (some (a0_0, (([t468] : List Int)), a0_2, a0_3, (rd l0_1 0))) = some (r1, r2, r3, r4, r5) := H
            have A36 := Aside0.mk A360
            clear A360
            obtain ⟨y469, hy469⟩ : ∃ y_ : List Int, y_ = (([t468] : List Int)) := ⟨_, rfl⟩
            replace H : (some (a0_0, y469, a0_2, a0_3, (rd l0_1 0))) = some (r1, r2, r3, r4, r5) := by first | (rw [hy469]; with_reducible exact H) | (have H2_ := (Option.bind_some _ _).symm.trans H; rw [hy469]; with_reducible exact H2_) | (have H2_ := (Option.bind_some _ _).symm.trans H; with_reducible exact H2_) | with_reducible exact H | (rw [hy469]; exact H) | exact H
            have Ny469 := Aside0.mk hy469
            clear hy469
            simp only [Option.some.injEq, Prod.mk.injEq] at H
            obtain ⟨rfl, rfl, rfl, rfl, rfl⟩ := H
            have hnb37 := NB464_463.out
            have hnc37 := NB463_464.out
            have hnb38 := NB464_465.out
            have hnc38 := NB465_464.out
            have hcz39_0 : wc.cell? ⟨gb464, 0, none⟩ = some (.int .i64 a1_0) := (blk_cell BK464.out 0).trans rfl
            have hcz39_1 : wc.cell? ⟨gb464, 1, none⟩ = some (.int .i64 a1_1) := (blk_cell BK464.out 1).trans rfl
            have hcz39_2 : wc.cell? ⟨gb464, 2, none⟩ = some (.int .i64 a1_2) := (blk_cell BK464.out 2).trans rfl
            have hfz39_0 := blk_frozen BK464.out 0
            have hfz39_1 := blk_frozen BK464.out 1
            have hfz39_2 := blk_frozen BK464.out 2
            have tok1_ : True := trivial; have tok2_ : True := trivial
            go_wp2_with (first | ((with_reducible refine gate_callee (f := 52) rfl ?_); clear tok1_; refine goesL_ (some 29) rfl rfl Tryz.func52 (by kernel_rfl) rfl #[.int .i64 a1_1] rfl (by (try simp only [List.map_toArray, List.map_cons, List.map_nil]); first | done | rfl | (simp only [List.length_drop, List.length_take]; rfl)) ?_; (with_reducible refine (objs_cut.calls a1_1 t467 _ A35.out).mono ?_); rintro e w40 ⟨rfl, hb⟩; refine ⟨_, rfl, ?_⟩; have n0_ := Aside0.mk (Kd.R_below (by (with_reducible repeat (first | apply Kd.R_alloc | apply Kd.R_drewN | apply Kd.R_drew)); exact HO_464001.out) hb); have n1_ := Aside0.mk (blk_below (g := gb463) (o := .cells #[.int .i64 a0_0, .slice (some ad466) l0_1.length co16, .bool a0_2, .int .i64 a0_3] 36 (0, 0)) (by (with_reducible repeat (first | refine blk_drewN ?_ _ | refine blk_drew ?_ | refine blk_alloc ?_ _)); exact BK463.out) hb); have n2_ := Aside0.mk (blk_below (g := gb464) (o := .cells #[.int .i64 a1_0, .int .i64 a1_1, .int .i64 a1_2] 38 (0, 0)) (by (with_reducible repeat (first | refine blk_drewN ?_ _ | refine blk_drew ?_ | refine blk_alloc ?_ _)); exact BK464.out) hb); have n3_ := Aside0.mk (blk_below (g := gb465) (o := .cells #[.int .i64 0, .slice none 0 0, .bool false, .int .i64 0] 36 (0, 0)) (by (with_reducible repeat (first | refine blk_drewN ?_ _ | refine blk_drew ?_ | refine blk_alloc ?_ _)); exact BK465.out) hb); have n4_ := Aside0.mk (Kept.below (S := (fun k_ => P0_1_ k_)) (by repeat (first | (with_reducible first | exact HK.out | apply Kept.alloc | apply Kept.drewN | apply Kept.drew | refine Kept.setCell ?_ (.inr GW463.out) _ | refine Kept.setCell ?_ (.inr GW464.out) _ | refine Kept.setCell ?_ (.inr GW465.out) _) | exact HK.out)) hb); have n5_ := Aside0.mk (below_step (by repeat (first | (with_reducible first | exact HB.out | apply below_alloc | apply pw_below_drewN | apply below_drew1 | refine below_set ?_ GE463.out | refine below_set ?_ GE464.out | refine below_set ?_ GE465.out) | exact HB.out)) hb); clear HO_464001; clear BK463; clear BK464; clear BK465; clear HK; clear HB; have HO_464001 := n0_; have BK463 := n1_; have BK464 := n2_; have BK465 := n3_; have HK := n4_; have HB := n5_; clear n0_ n1_ n2_ n3_ n4_ n5_; (try clear hb); (try clear hb2); (try clear hk); (try clear hi)) | ((with_reducible refine gate_callee (f := 52) rfl ?_); clear tok2_; refine goesL_ (some 31) rfl rfl Tryz.func52 (by kernel_rfl) rfl #[.int .i64 (wrap64 ((rd l0_1 0) + t467))] rfl (by (try simp only [List.map_toArray, List.map_cons, List.map_nil]); first | done | rfl | (simp only [List.length_drop, List.length_take]; rfl)) ?_; (with_reducible refine (objs_cut.calls (wrap64 ((rd l0_1 0) + t467)) t468 _ A36.out).mono ?_); rintro e w41 ⟨rfl, hb⟩; refine ⟨_, rfl, ?_⟩; have n0_ := Aside0.mk (Kd.R_below (by (with_reducible repeat (first | apply Kd.R_alloc | apply Kd.R_drewN | apply Kd.R_drew)); exact HO_464001.out) hb); have n1_ := Aside0.mk (blk_below (g := gb463) (o := .cells #[.int .i64 a0_0, .slice (some ad466) l0_1.length co16, .bool a0_2, .int .i64 a0_3] 36 (0, 0)) (by (with_reducible repeat (first | refine blk_drewN ?_ _ | refine blk_drew ?_ | refine blk_alloc ?_ _)); exact BK463.out) hb); have n2_ := Aside0.mk (blk_below (g := gb464) (o := .cells #[.int .i64 a1_0, .int .i64 a1_1, .int .i64 a1_2] 38 (0, 0)) (by (with_reducible repeat (first | refine blk_drewN ?_ _ | refine blk_drew ?_ | refine blk_alloc ?_ _)); exact BK464.out) hb); have n3_ := Aside0.mk (blk_below (g := gb465) (o := .cells #[.int .i64 0, .slice none 0 0, .bool false, .int .i64 0] 36 (0, 0)) (by (with_reducible repeat (first | refine blk_drewN ?_ _ | refine blk_drew ?_ | refine blk_alloc ?_ _)); exact BK465.out) hb); have n4_ := Aside0.mk (Kept.below (S := (fun k_ => P0_1_ k_)) (by repeat (first | (with_reducible first | exact HK.out | apply Kept.alloc | apply Kept.drewN | apply Kept.drew | refine Kept.setCell ?_ (.inr GW463.out) _ | refine Kept.setCell ?_ (.inr GW464.out) _ | refine Kept.setCell ?_ (.inr GW465.out) _) | exact HK.out)) hb); have n5_ := Aside0.mk (below_step (by repeat (first | (with_reducible first | exact HB.out | apply below_alloc | apply pw_below_drewN | apply below_drew1 | refine below_set ?_ GE463.out | refine below_set ?_ GE464.out | refine below_set ?_ GE465.out) | exact HB.out)) hb); clear HO_464001; clear BK463; clear BK464; clear BK465; clear HK; clear HB; have HO_464001 := n0_; have BK463 := n1_; have BK464 := n2_; have BK465 := n3_; have HK := n4_; have HB := n5_; clear n0_ n1_ n2_ n3_ n4_ n5_; (try clear hb); (try clear hb2); (try clear hk); (try clear hi)) | ((with_reducible refine gate_dst (N := 32) rfl ?_); refine Kd.R_lit (Kd.int .i64) _ 3 ?hg (N := 32) ?hd (xs := ([t468] : List Int)) (inner := [.int .i64 t468]) (ok := fun _ => True) (okp := fun _ => True) ?hr ?hp (fun _ hk => hk) trivial (Below.refl _ _) (Nat.le_refl _) (by simp) ?_; (case hd => rfl); (case hg => rfl); (case hr => first | (go_simp; done) | (go_simp; rfl)); (case hp => exact (Reps.one (show Kd.M (Kd.int .i64) _ _ _ t468 [.int .i64 t468] from rfl) (Reps.none _ _))); intro v470 w42 ho43 hb hg_ hnew_; clear hg_ hnew_; (first | rw [← Ny469.out] at ho43 | (simp only [Int.reduceToNat] at ho43; rw [← Ny469.out] at ho43)); have n0_ := Aside0.mk (Kd.R_elder' (by (with_reducible repeat (first | apply Kd.R_alloc | apply Kd.R_drewN | apply Kd.R_drew)); exact HO_464001.out) (Kd.R_base ho43) hb); have n1_ := Aside0.mk (Kd.R_lower (Kd.R_new' (Kd.R_newM (M := fun k_ => (P0_1_ k_ ∨ w.heap.size ≤ k_)) ho43 (by first | exact HK.out.1 | exact (show Kept w _ (fun k_ => P0_1_ k_) from by repeat (first | (with_reducible first | exact HK.out | apply Kept.alloc | apply Kept.drewN | apply Kept.drew | refine Kept.setCell ?_ (.inr GW463.out) _ | refine Kept.setCell ?_ (.inr GW464.out) _ | refine Kept.setCell ?_ (.inr GW465.out) _) | exact HK.out)).1) (fun k_ h_ => .inr h_)) (Kd.R_lt (by (with_reducible repeat (first | apply Kd.R_alloc | apply Kd.R_drewN | apply Kd.R_drew)); exact HO_464001.out))) (below_size (by repeat (first | (with_reducible first | exact HB.out | apply below_alloc | apply pw_below_drewN | apply below_drew1 | refine below_set ?_ GE463.out | refine below_set ?_ GE464.out | refine below_set ?_ GE465.out) | exact HB.out)))); have n2_ := Aside0.mk (blk_below (g := gb463) (o := .cells #[.int .i64 a0_0, .slice (some ad466) l0_1.length co16, .bool a0_2, .int .i64 a0_3] 36 (0, 0)) (by (with_reducible repeat (first | refine blk_drewN ?_ _ | refine blk_drew ?_ | refine blk_alloc ?_ _)); exact BK463.out) hb); have n3_ := Aside0.mk (blk_below (g := gb464) (o := .cells #[.int .i64 a1_0, .int .i64 a1_1, .int .i64 a1_2] 38 (0, 0)) (by (with_reducible repeat (first | refine blk_drewN ?_ _ | refine blk_drew ?_ | refine blk_alloc ?_ _)); exact BK464.out) hb); have n4_ := Aside0.mk (blk_below (g := gb465) (o := .cells #[.int .i64 0, .slice none 0 0, .bool false, .int .i64 0] 36 (0, 0)) (by (with_reducible repeat (first | refine blk_drewN ?_ _ | refine blk_drew ?_ | refine blk_alloc ?_ _)); exact BK465.out) hb); have n5_ := Aside0.mk (Kept.below (S := (fun k_ => P0_1_ k_)) (by repeat (first | (with_reducible first | exact HK.out | apply Kept.alloc | apply Kept.drewN | apply Kept.drew | refine Kept.setCell ?_ (.inr GW463.out) _ | refine Kept.setCell ?_ (.inr GW464.out) _ | refine Kept.setCell ?_ (.inr GW465.out) _) | exact HK.out)) hb); have n6_ := Aside0.mk (below_step (by repeat (first | (with_reducible first | exact HB.out | apply below_alloc | apply pw_below_drewN | apply below_drew1 | refine below_set ?_ GE463.out | refine below_set ?_ GE464.out | refine below_set ?_ GE465.out) | exact HB.out)) hb); clear HO_464001; clear BK463; clear BK464; clear BK465; clear HK; clear HB; have HO_464001 := n0_; have HO471 := n1_; have BK463 := n2_; have BK464 := n3_; have BK465 := n4_; have HK := n5_; have HB := n6_; clear n0_ n1_ n2_ n3_ n4_ n5_ n6_; clear hb ho43; obtain ⟨Ao44, co44, eo44⟩ := Kd.R_slice HO471.out; subst eo44; have hnb45 := NB463_465.out; have hnc45 := NB465_463.out; have hcz46_0 : w42.cell? ⟨gb463, 0, none⟩ = some (.int .i64 a0_0) := (blk_cell BK463.out 0).trans rfl; have hcz46_1 : w42.cell? ⟨gb463, 1, none⟩ = some (.slice (some ad466) l0_1.length co16) := (blk_cell BK463.out 1).trans rfl; have hcz46_2 : w42.cell? ⟨gb463, 2, none⟩ = some (.bool a0_2) := (blk_cell BK463.out 2).trans rfl; have hcz46_3 : w42.cell? ⟨gb463, 3, none⟩ = some (.int .i64 a0_3) := (blk_cell BK463.out 3).trans rfl; have hfz46_0 := blk_frozen BK463.out 0; have hfz46_1 := blk_frozen BK463.out 1; have hfz46_2 := blk_frozen BK463.out 2; have hfz46_3 := blk_frozen BK463.out 3; have hcz47_0 : w42.cell? ⟨gb465, 0, none⟩ = some (.int .i64 0) := (blk_cell BK465.out 0).trans rfl; have hcz47_1 : w42.cell? ⟨gb465, 1, none⟩ = some (.slice none 0 0) := (blk_cell BK465.out 1).trans rfl; have hcz47_2 : w42.cell? ⟨gb465, 2, none⟩ = some (.bool false) := (blk_cell BK465.out 2).trans rfl; have hcz47_3 : w42.cell? ⟨gb465, 3, none⟩ = some (.int .i64 0) := (blk_cell BK465.out 3).trans rfl; have hfz47_0 := blk_frozen BK465.out 0; have hfz47_1 := blk_frozen BK465.out 1; have hfz47_2 := blk_frozen BK465.out 2; have hfz47_3 := blk_frozen BK465.out 3))
            refine bodyPost_ret (results_ct rfl _ _ gb465 36 #[.int .i64 a0_0, .slice Ao44 y469.length co44, .bool a0_2, .int .i64 a0_3] (0, 0) _ rfl (by (with_reducible repeat (first | refine blk_drewN ?_ _ | refine blk_drew ?_ | refine blk_alloc ?_ _)); refine blk_put (cs := #[.int .i64 a0_0, .slice Ao44 y469.length co44, .bool a0_2, .int .i64 0]) ?_ 3 _ (by first | rfl | (simp only [gt_iff_lt, *]; rfl) | (simp [*]; done)); (with_reducible repeat (first | refine blk_drewN ?_ _ | refine blk_drew ?_ | refine blk_alloc ?_ _)); refine blk_put (cs := #[.int .i64 a0_0, .slice Ao44 y469.length co44, .bool false, .int .i64 0]) ?_ 2 _ (by first | rfl | (simp only [gt_iff_lt, *]; rfl) | (simp [*]; done)); (with_reducible repeat (first | refine blk_drewN ?_ _ | refine blk_drew ?_ | refine blk_alloc ?_ _)); refine blk_put (cs := #[.int .i64 a0_0, .slice none 0 0, .bool false, .int .i64 0]) ?_ 1 _ (by first | rfl | (simp only [gt_iff_lt, *]; rfl) | (simp [*]; done)); (with_reducible repeat (first | refine blk_drewN ?_ _ | refine blk_drew ?_ | refine blk_alloc ?_ _)); refine blk_put (cs := #[.int .i64 0, .slice none 0 0, .bool false, .int .i64 0]) ?_ 0 _ (by first | rfl | (simp only [gt_iff_lt, *]; rfl) | (simp [*]; done)); (with_reducible repeat (first | refine blk_drewN ?_ _ | refine blk_drew ?_ | refine blk_alloc ?_ _)); refine blk_far ?_ NB465_463.out _; (with_reducible repeat (first | refine blk_drewN ?_ _ | refine blk_drew ?_ | refine blk_alloc ?_ _)); exact BK465.out) Tryz.underlying36 rfl (by kernel_rfl)) rfl ?_
            exact ⟨_, by first | rfl | (simp [errW_none, errW_some] <;> rfl) | (simp [*, errW_none, errW_some] <;> rfl), by (with_reducible repeat (first | apply Kd.R_alloc | apply Kd.R_drewN | apply Kd.R_drew)); exact Kd.R_mono (Kd.R_far (p := ⟨gb465, 3, none⟩) (Kd.R_far (p := ⟨gb465, 2, none⟩) (Kd.R_far (p := ⟨gb465, 1, none⟩) (Kd.R_far (p := ⟨gb465, 0, none⟩) (Kd.R_far (p := ⟨gb463, 1, none⟩) (Kd.R_types (Kd.R_types HO471.out BK463.out (by decide)) BK465.out (by decide)) (fun _ hk => hk.1.2) (.slice Ao44 y469.length co44)) (fun _ hk => hk.2) (.int .i64 a0_0)) (fun _ hk => hk.2) (.slice Ao44 y469.length co44)) (fun _ hk => hk.2) (.bool a0_2)) (fun _ hk => hk.2) (.int .i64 a0_3)) (fun _ hk => hk.1.1.1.1), by repeat (first | (with_reducible first | exact HB.out | apply below_alloc | apply pw_below_drewN | apply below_drew1 | refine below_set ?_ GE463.out | refine below_set ?_ GE464.out | refine below_set ?_ GE465.out) | exact HB.out), by repeat (first | (with_reducible first | exact HK.out | apply Kept.alloc | apply Kept.drewN | apply Kept.drew | refine Kept.setCell ?_ (.inr GW463.out) _ | refine Kept.setCell ?_ (.inr GW464.out) _ | refine Kept.setCell ?_ (.inr GW465.out) _) | exact HK.out)⟩
          · replace c34 := Bool.eq_false_iff.mpr c34
            subst c34
            have H1 : (if a0_0 = 1 then (if a1_0 = 2 then ((objs_cut.f a1_1).bind fun t472 => (some (a0_0, (([t472] : List Int)), a0_2, a0_3, (rd l0_1 0)))) else (some (a0_0, l0_1, a0_2, a0_3, 0))) else (some (a0_0, l0_1, a0_2, a0_3, 0))) = some (r1, r2, r3, r4, r5) := by rw [if_neg (show ¬ (false = true) by decide)] at H; exact H
            clear H
            have H := H1
            clear H1
            by_cases c48 : a0_0 = 1
            · rw [if_pos c48] at H
              have c48b0 : (a0_0 == 1) = true := beq_iff_eq.mpr c48
              have c48b1 : (a0_0 != 1) = false := bne_eq_false_iff_eq.mpr c48
              clear c48
              by_cases c49 : a1_0 = 2
              · rw [if_pos c49] at H
                have c49b0 : (a1_0 == 2) = true := beq_iff_eq.mpr c49
                have c49b1 : (a1_0 != 2) = false := bne_eq_false_iff_eq.mpr c49
                clear c49
                replace H := Option.bind_eq_some_iff.mp H
                obtain ⟨t472, A500, H⟩ := H
                replace H : (some (a0_0, (([t472] : List Int)), a0_2, a0_3, (rd l0_1 0))) = some (r1, r2, r3, r4, r5) := H
                have A50 := Aside0.mk A500
                clear A500
                obtain ⟨y473, hy473⟩ : ∃ y_ : List Int, y_ = (([t472] : List Int)) := ⟨_, rfl⟩
                replace H : (some (a0_0, y473, a0_2, a0_3, (rd l0_1 0))) = some (r1, r2, r3, r4, r5) := by first | (rw [hy473]; with_reducible exact H) | (have H2_ := (Option.bind_some _ _).symm.trans H; rw [hy473]; with_reducible exact H2_) | (have H2_ := (Option.bind_some _ _).symm.trans H; with_reducible exact H2_) | with_reducible exact H | (rw [hy473]; exact H) | exact H
                have Ny473 := Aside0.mk hy473
                clear hy473
                simp only [Option.some.injEq, Prod.mk.injEq] at H
                obtain ⟨rfl, rfl, rfl, rfl, rfl⟩ := H
                have hnb51 := NB463_464.out
                have hnc51 := NB464_463.out
                have hnb52 := NB463_465.out
                have hnc52 := NB465_463.out
                have hcz53_0 : wc.cell? ⟨gb463, 0, none⟩ = some (.int .i64 a0_0) := (blk_cell BK463.out 0).trans rfl
                have hcz53_1 : wc.cell? ⟨gb463, 1, none⟩ = some (.slice (some ad466) l0_1.length co16) := (blk_cell BK463.out 1).trans rfl
                have hcz53_2 : wc.cell? ⟨gb463, 2, none⟩ = some (.bool a0_2) := (blk_cell BK463.out 2).trans rfl
                have hcz53_3 : wc.cell? ⟨gb463, 3, none⟩ = some (.int .i64 a0_3) := (blk_cell BK463.out 3).trans rfl
                have hfz53_0 := blk_frozen BK463.out 0
                have hfz53_1 := blk_frozen BK463.out 1
                have hfz53_2 := blk_frozen BK463.out 2
                have hfz53_3 := blk_frozen BK463.out 3
                have hnb54 := NB464_465.out
                have hnc54 := NB465_464.out
                have hcz55_0 : wc.cell? ⟨gb464, 0, none⟩ = some (.int .i64 a1_0) := (blk_cell BK464.out 0).trans rfl
                have hcz55_1 : wc.cell? ⟨gb464, 1, none⟩ = some (.int .i64 a1_1) := (blk_cell BK464.out 1).trans rfl
                have hcz55_2 : wc.cell? ⟨gb464, 2, none⟩ = some (.int .i64 a1_2) := (blk_cell BK464.out 2).trans rfl
                have hfz55_0 := blk_frozen BK464.out 0
                have hfz55_1 := blk_frozen BK464.out 1
                have hfz55_2 := blk_frozen BK464.out 2
                have tok3_ : True := trivial
                go_wp2_with (first | ((with_reducible refine gate_callee (f := 52) rfl ?_); clear tok3_; refine goesL_ (some 47) rfl rfl Tryz.func52 (by kernel_rfl) rfl #[.int .i64 a1_1] rfl (by (try simp only [List.map_toArray, List.map_cons, List.map_nil]); first | done | rfl | (simp only [List.length_drop, List.length_take]; rfl)) ?_; (with_reducible refine (objs_cut.calls a1_1 t472 _ A50.out).mono ?_); rintro e w56 ⟨rfl, hb⟩; refine ⟨_, rfl, ?_⟩; have n0_ := Aside0.mk (Kd.R_below (by (with_reducible repeat (first | apply Kd.R_alloc | apply Kd.R_drewN | apply Kd.R_drew)); exact HO_464001.out) hb); have n1_ := Aside0.mk (blk_below (g := gb463) (o := .cells #[.int .i64 a0_0, .slice (some ad466) l0_1.length co16, .bool a0_2, .int .i64 a0_3] 36 (0, 0)) (by (with_reducible repeat (first | refine blk_drewN ?_ _ | refine blk_drew ?_ | refine blk_alloc ?_ _)); exact BK463.out) hb); have n2_ := Aside0.mk (blk_below (g := gb464) (o := .cells #[.int .i64 a1_0, .int .i64 a1_1, .int .i64 a1_2] 38 (0, 0)) (by (with_reducible repeat (first | refine blk_drewN ?_ _ | refine blk_drew ?_ | refine blk_alloc ?_ _)); exact BK464.out) hb); have n3_ := Aside0.mk (blk_below (g := gb465) (o := .cells #[.int .i64 0, .slice none 0 0, .bool false, .int .i64 0] 36 (0, 0)) (by (with_reducible repeat (first | refine blk_drewN ?_ _ | refine blk_drew ?_ | refine blk_alloc ?_ _)); exact BK465.out) hb); have n4_ := Aside0.mk (Kept.below (S := (fun k_ => P0_1_ k_)) (by repeat (first | (with_reducible first | exact HK.out | apply Kept.alloc | apply Kept.drewN | apply Kept.drew | refine Kept.setCell ?_ (.inr GW463.out) _ | refine Kept.setCell ?_ (.inr GW464.out) _ | refine Kept.setCell ?_ (.inr GW465.out) _) | exact HK.out)) hb); have n5_ := Aside0.mk (below_step (by repeat (first | (with_reducible first | exact HB.out | apply below_alloc | apply pw_below_drewN | apply below_drew1 | refine below_set ?_ GE463.out | refine below_set ?_ GE464.out | refine below_set ?_ GE465.out) | exact HB.out)) hb); clear HO_464001; clear BK463; clear BK464; clear BK465; clear HK; clear HB; have HO_464001 := n0_; have BK463 := n1_; have BK464 := n2_; have BK465 := n3_; have HK := n4_; have HB := n5_; clear n0_ n1_ n2_ n3_ n4_ n5_; (try clear hb); (try clear hb2); (try clear hk); (try clear hi)) | ((with_reducible refine gate_dst (N := 48) rfl ?_); refine Kd.R_lit (Kd.int .i64) _ 3 ?hg (N := 48) ?hd (xs := ([t472] : List Int)) (inner := [.int .i64 t472]) (ok := fun _ => True) (okp := fun _ => True) ?hr ?hp (fun _ hk => hk) trivial (Below.refl _ _) (Nat.le_refl _) (by simp) ?_; (case hd => rfl); (case hg => rfl); (case hr => first | (go_simp; done) | (go_simp; rfl)); (case hp => exact (Reps.one (show Kd.M (Kd.int .i64) _ _ _ t472 [.int .i64 t472] from rfl) (Reps.none _ _))); intro v474 w57 ho58 hb hg_ hnew_; clear hg_ hnew_; (first | rw [← Ny473.out] at ho58 | (simp only [Int.reduceToNat] at ho58; rw [← Ny473.out] at ho58)); have n0_ := Aside0.mk (Kd.R_elder' (by (with_reducible repeat (first | apply Kd.R_alloc | apply Kd.R_drewN | apply Kd.R_drew)); exact HO_464001.out) (Kd.R_base ho58) hb); have n1_ := Aside0.mk (Kd.R_lower (Kd.R_new' (Kd.R_newM (M := fun k_ => (P0_1_ k_ ∨ w.heap.size ≤ k_)) ho58 (by first | exact HK.out.1 | exact (show Kept w _ (fun k_ => P0_1_ k_) from by repeat (first | (with_reducible first | exact HK.out | apply Kept.alloc | apply Kept.drewN | apply Kept.drew | refine Kept.setCell ?_ (.inr GW463.out) _ | refine Kept.setCell ?_ (.inr GW464.out) _ | refine Kept.setCell ?_ (.inr GW465.out) _) | exact HK.out)).1) (fun k_ h_ => .inr h_)) (Kd.R_lt (by (with_reducible repeat (first | apply Kd.R_alloc | apply Kd.R_drewN | apply Kd.R_drew)); exact HO_464001.out))) (below_size (by repeat (first | (with_reducible first | exact HB.out | apply below_alloc | apply pw_below_drewN | apply below_drew1 | refine below_set ?_ GE463.out | refine below_set ?_ GE464.out | refine below_set ?_ GE465.out) | exact HB.out)))); have n2_ := Aside0.mk (blk_below (g := gb463) (o := .cells #[.int .i64 a0_0, .slice (some ad466) l0_1.length co16, .bool a0_2, .int .i64 a0_3] 36 (0, 0)) (by (with_reducible repeat (first | refine blk_drewN ?_ _ | refine blk_drew ?_ | refine blk_alloc ?_ _)); exact BK463.out) hb); have n3_ := Aside0.mk (blk_below (g := gb464) (o := .cells #[.int .i64 a1_0, .int .i64 a1_1, .int .i64 a1_2] 38 (0, 0)) (by (with_reducible repeat (first | refine blk_drewN ?_ _ | refine blk_drew ?_ | refine blk_alloc ?_ _)); exact BK464.out) hb); have n4_ := Aside0.mk (blk_below (g := gb465) (o := .cells #[.int .i64 0, .slice none 0 0, .bool false, .int .i64 0] 36 (0, 0)) (by (with_reducible repeat (first | refine blk_drewN ?_ _ | refine blk_drew ?_ | refine blk_alloc ?_ _)); exact BK465.out) hb); have n5_ := Aside0.mk (Kept.below (S := (fun k_ => P0_1_ k_)) (by repeat (first | (with_reducible first | exact HK.out | apply Kept.alloc | apply Kept.drewN | apply Kept.drew | refine Kept.setCell ?_ (.inr GW463.out) _ | refine Kept.setCell ?_ (.inr GW464.out) _ | refine Kept.setCell ?_ (.inr GW465.out) _) | exact HK.out)) hb); have n6_ := Aside0.mk (below_step (by repeat (first | (with_reducible first | exact HB.out | apply below_alloc | apply pw_below_drewN | apply below_drew1 | refine below_set ?_ GE463.out | refine below_set ?_ GE464.out | refine below_set ?_ GE465.out) | exact HB.out)) hb); clear HO_464001; clear BK463; clear BK464; clear BK465; clear HK; clear HB; have HO_464001 := n0_; have HO475 := n1_; have BK463 := n2_; have BK464 := n3_; have BK465 := n4_; have HK := n5_; have HB := n6_; clear n0_ n1_ n2_ n3_ n4_ n5_ n6_; clear hb ho58; obtain ⟨Ao59, co59, eo59⟩ := Kd.R_slice HO475.out; subst eo59; have hcz60_0 : w57.cell? ⟨gb463, 0, none⟩ = some (.int .i64 a0_0) := (blk_cell BK463.out 0).trans rfl; have hcz60_1 : w57.cell? ⟨gb463, 1, none⟩ = some (.slice (some ad466) l0_1.length co16) := (blk_cell BK463.out 1).trans rfl; have hcz60_2 : w57.cell? ⟨gb463, 2, none⟩ = some (.bool a0_2) := (blk_cell BK463.out 2).trans rfl; have hcz60_3 : w57.cell? ⟨gb463, 3, none⟩ = some (.int .i64 a0_3) := (blk_cell BK463.out 3).trans rfl; have hfz60_0 := blk_frozen BK463.out 0; have hfz60_1 := blk_frozen BK463.out 1; have hfz60_2 := blk_frozen BK463.out 2; have hfz60_3 := blk_frozen BK463.out 3; have hcz61_0 : w57.cell? ⟨gb465, 0, none⟩ = some (.int .i64 0) := (blk_cell BK465.out 0).trans rfl; have hcz61_1 : w57.cell? ⟨gb465, 1, none⟩ = some (.slice none 0 0) := (blk_cell BK465.out 1).trans rfl; have hcz61_2 : w57.cell? ⟨gb465, 2, none⟩ = some (.bool false) := (blk_cell BK465.out 2).trans rfl; have hcz61_3 : w57.cell? ⟨gb465, 3, none⟩ = some (.int .i64 0) := (blk_cell BK465.out 3).trans rfl; have hfz61_0 := blk_frozen BK465.out 0; have hfz61_1 := blk_frozen BK465.out 1; have hfz61_2 := blk_frozen BK465.out 2; have hfz61_3 := blk_frozen BK465.out 3))
                refine bodyPost_ret (results_ct rfl _ _ gb465 36 #[.int .i64 a0_0, .slice Ao59 y473.length co59, .bool a0_2, .int .i64 a0_3] (0, 0) _ rfl (by (with_reducible repeat (first | refine blk_drewN ?_ _ | refine blk_drew ?_ | refine blk_alloc ?_ _)); refine blk_put (cs := #[.int .i64 a0_0, .slice Ao59 y473.length co59, .bool a0_2, .int .i64 0]) ?_ 3 _ (by first | rfl | (simp only [gt_iff_lt, *]; rfl) | (simp [*]; done)); (with_reducible repeat (first | refine blk_drewN ?_ _ | refine blk_drew ?_ | refine blk_alloc ?_ _)); refine blk_put (cs := #[.int .i64 a0_0, .slice Ao59 y473.length co59, .bool false, .int .i64 0]) ?_ 2 _ (by first | rfl | (simp only [gt_iff_lt, *]; rfl) | (simp [*]; done)); (with_reducible repeat (first | refine blk_drewN ?_ _ | refine blk_drew ?_ | refine blk_alloc ?_ _)); refine blk_put (cs := #[.int .i64 a0_0, .slice none 0 0, .bool false, .int .i64 0]) ?_ 1 _ (by first | rfl | (simp only [gt_iff_lt, *]; rfl) | (simp [*]; done)); (with_reducible repeat (first | refine blk_drewN ?_ _ | refine blk_drew ?_ | refine blk_alloc ?_ _)); refine blk_put (cs := #[.int .i64 0, .slice none 0 0, .bool false, .int .i64 0]) ?_ 0 _ (by first | rfl | (simp only [gt_iff_lt, *]; rfl) | (simp [*]; done)); (with_reducible repeat (first | refine blk_drewN ?_ _ | refine blk_drew ?_ | refine blk_alloc ?_ _)); refine blk_far ?_ NB465_463.out _; (with_reducible repeat (first | refine blk_drewN ?_ _ | refine blk_drew ?_ | refine blk_alloc ?_ _)); exact BK465.out) Tryz.underlying36 rfl (by kernel_rfl)) rfl ?_
                exact ⟨_, by first | rfl | (simp [errW_none, errW_some] <;> rfl) | (simp [*, errW_none, errW_some] <;> rfl), by (with_reducible repeat (first | apply Kd.R_alloc | apply Kd.R_drewN | apply Kd.R_drew)); exact Kd.R_mono (Kd.R_far (p := ⟨gb465, 3, none⟩) (Kd.R_far (p := ⟨gb465, 2, none⟩) (Kd.R_far (p := ⟨gb465, 1, none⟩) (Kd.R_far (p := ⟨gb465, 0, none⟩) (Kd.R_far (p := ⟨gb463, 1, none⟩) (Kd.R_types (Kd.R_types HO475.out BK463.out (by decide)) BK465.out (by decide)) (fun _ hk => hk.1.2) (.slice Ao59 y473.length co59)) (fun _ hk => hk.2) (.int .i64 a0_0)) (fun _ hk => hk.2) (.slice Ao59 y473.length co59)) (fun _ hk => hk.2) (.bool a0_2)) (fun _ hk => hk.2) (.int .i64 a0_3)) (fun _ hk => hk.1.1.1.1), by repeat (first | (with_reducible first | exact HB.out | apply below_alloc | apply pw_below_drewN | apply below_drew1 | refine below_set ?_ GE463.out | refine below_set ?_ GE464.out | refine below_set ?_ GE465.out) | exact HB.out), by repeat (first | (with_reducible first | exact HK.out | apply Kept.alloc | apply Kept.drewN | apply Kept.drew | refine Kept.setCell ?_ (.inr GW463.out) _ | refine Kept.setCell ?_ (.inr GW464.out) _ | refine Kept.setCell ?_ (.inr GW465.out) _) | exact HK.out)⟩
              · rw [if_neg c49] at H
                have c49b0 : (a1_0 == 2) = false := beq_eq_false_iff_ne.mpr c49
                have c49b1 : (a1_0 != 2) = true := bne_iff_ne.mpr c49
                simp only [Option.some.injEq, Prod.mk.injEq] at H
                obtain ⟨rfl, rfl, rfl, rfl, rfl⟩ := H
                have hnb62 := NB463_464.out
                have hnc62 := NB464_463.out
                have hnb63 := NB463_465.out
                have hnc63 := NB465_463.out
                have hcz64_0 : wc.cell? ⟨gb463, 0, none⟩ = some (.int .i64 a0_0) := (blk_cell BK463.out 0).trans rfl
                have hcz64_1 : wc.cell? ⟨gb463, 1, none⟩ = some (.slice (some ad466) l0_1.length co16) := (blk_cell BK463.out 1).trans rfl
                have hcz64_2 : wc.cell? ⟨gb463, 2, none⟩ = some (.bool a0_2) := (blk_cell BK463.out 2).trans rfl
                have hcz64_3 : wc.cell? ⟨gb463, 3, none⟩ = some (.int .i64 a0_3) := (blk_cell BK463.out 3).trans rfl
                have hfz64_0 := blk_frozen BK463.out 0
                have hfz64_1 := blk_frozen BK463.out 1
                have hfz64_2 := blk_frozen BK463.out 2
                have hfz64_3 := blk_frozen BK463.out 3
                have hnb65 := NB464_465.out
                have hnc65 := NB465_464.out
                have hcz66_0 : wc.cell? ⟨gb464, 0, none⟩ = some (.int .i64 a1_0) := (blk_cell BK464.out 0).trans rfl
                have hcz66_1 : wc.cell? ⟨gb464, 1, none⟩ = some (.int .i64 a1_1) := (blk_cell BK464.out 1).trans rfl
                have hcz66_2 : wc.cell? ⟨gb464, 2, none⟩ = some (.int .i64 a1_2) := (blk_cell BK464.out 2).trans rfl
                have hfz66_0 := blk_frozen BK464.out 0
                have hfz66_1 := blk_frozen BK464.out 1
                have hfz66_2 := blk_frozen BK464.out 2
                have hcz67_0 : wc.cell? ⟨gb465, 0, none⟩ = some (.int .i64 0) := (blk_cell BK465.out 0).trans rfl
                have hcz67_1 : wc.cell? ⟨gb465, 1, none⟩ = some (.slice none 0 0) := (blk_cell BK465.out 1).trans rfl
                have hcz67_2 : wc.cell? ⟨gb465, 2, none⟩ = some (.bool false) := (blk_cell BK465.out 2).trans rfl
                have hcz67_3 : wc.cell? ⟨gb465, 3, none⟩ = some (.int .i64 0) := (blk_cell BK465.out 3).trans rfl
                have hfz67_0 := blk_frozen BK465.out 0
                have hfz67_1 := blk_frozen BK465.out 1
                have hfz67_2 := blk_frozen BK465.out 2
                have hfz67_3 := blk_frozen BK465.out 3
                go_wp2
                refine bodyPost_ret (results_ct rfl _ _ gb465 36 #[.int .i64 a0_0, .slice (some ad466) l0_1.length co16, .bool a0_2, .int .i64 a0_3] (0, 0) _ rfl (by (with_reducible repeat (first | refine blk_drewN ?_ _ | refine blk_drew ?_ | refine blk_alloc ?_ _)); refine blk_put (cs := #[.int .i64 a0_0, .slice (some ad466) l0_1.length co16, .bool a0_2, .int .i64 0]) ?_ 3 _ (by first | rfl | (simp only [gt_iff_lt, *]; rfl) | (simp [*]; done)); (with_reducible repeat (first | refine blk_drewN ?_ _ | refine blk_drew ?_ | refine blk_alloc ?_ _)); refine blk_put (cs := #[.int .i64 a0_0, .slice (some ad466) l0_1.length co16, .bool false, .int .i64 0]) ?_ 2 _ (by first | rfl | (simp only [gt_iff_lt, *]; rfl) | (simp [*]; done)); (with_reducible repeat (first | refine blk_drewN ?_ _ | refine blk_drew ?_ | refine blk_alloc ?_ _)); refine blk_put (cs := #[.int .i64 a0_0, .slice none 0 0, .bool false, .int .i64 0]) ?_ 1 _ (by first | rfl | (simp only [gt_iff_lt, *]; rfl) | (simp [*]; done)); (with_reducible repeat (first | refine blk_drewN ?_ _ | refine blk_drew ?_ | refine blk_alloc ?_ _)); refine blk_put (cs := #[.int .i64 0, .slice none 0 0, .bool false, .int .i64 0]) ?_ 0 _ (by first | rfl | (simp only [gt_iff_lt, *]; rfl) | (simp [*]; done)); (with_reducible repeat (first | refine blk_drewN ?_ _ | refine blk_drew ?_ | refine blk_alloc ?_ _)); exact BK465.out) Tryz.underlying36 rfl (by kernel_rfl)) rfl ?_
                exact ⟨_, by first | rfl | (simp [errW_none, errW_some] <;> rfl) | (simp [*, errW_none, errW_some] <;> rfl), by (with_reducible repeat (first | apply Kd.R_alloc | apply Kd.R_drewN | apply Kd.R_drew)); exact Kd.R_mono (Kd.R_far (p := ⟨gb465, 3, none⟩) (Kd.R_far (p := ⟨gb465, 2, none⟩) (Kd.R_far (p := ⟨gb465, 1, none⟩) (Kd.R_far (p := ⟨gb465, 0, none⟩) (Kd.R_types HO_464001.out BK465.out (by decide)) (fun _ hk => hk.2) (.int .i64 a0_0)) (fun _ hk => hk.2) (.slice (some ad466) l0_1.length co16)) (fun _ hk => hk.2) (.bool a0_2)) (fun _ hk => hk.2) (.int .i64 a0_3)) (fun _ hk => hk.1), by repeat (first | (with_reducible first | exact HB.out | apply below_alloc | apply pw_below_drewN | apply below_drew1 | refine below_set ?_ GE463.out | refine below_set ?_ GE464.out | refine below_set ?_ GE465.out) | exact HB.out), by repeat (first | (with_reducible first | exact HK.out | apply Kept.alloc | apply Kept.drewN | apply Kept.drew | refine Kept.setCell ?_ (.inr GW463.out) _ | refine Kept.setCell ?_ (.inr GW464.out) _ | refine Kept.setCell ?_ (.inr GW465.out) _) | exact HK.out)⟩
            · rw [if_neg c48] at H
              have c48b0 : (a0_0 == 1) = false := beq_eq_false_iff_ne.mpr c48
              have c48b1 : (a0_0 != 1) = true := bne_iff_ne.mpr c48
              simp only [Option.some.injEq, Prod.mk.injEq] at H
              obtain ⟨rfl, rfl, rfl, rfl, rfl⟩ := H
              have hnb68 := NB463_464.out
              have hnc68 := NB464_463.out
              have hnb69 := NB463_465.out
              have hnc69 := NB465_463.out
              have hcz70_0 : wc.cell? ⟨gb463, 0, none⟩ = some (.int .i64 a0_0) := (blk_cell BK463.out 0).trans rfl
              have hcz70_1 : wc.cell? ⟨gb463, 1, none⟩ = some (.slice (some ad466) l0_1.length co16) := (blk_cell BK463.out 1).trans rfl
              have hcz70_2 : wc.cell? ⟨gb463, 2, none⟩ = some (.bool a0_2) := (blk_cell BK463.out 2).trans rfl
              have hcz70_3 : wc.cell? ⟨gb463, 3, none⟩ = some (.int .i64 a0_3) := (blk_cell BK463.out 3).trans rfl
              have hfz70_0 := blk_frozen BK463.out 0
              have hfz70_1 := blk_frozen BK463.out 1
              have hfz70_2 := blk_frozen BK463.out 2
              have hfz70_3 := blk_frozen BK463.out 3
              have hnb71 := NB465_464.out
              have hnc71 := NB464_465.out
              have hcz72_0 : wc.cell? ⟨gb465, 0, none⟩ = some (.int .i64 0) := (blk_cell BK465.out 0).trans rfl
              have hcz72_1 : wc.cell? ⟨gb465, 1, none⟩ = some (.slice none 0 0) := (blk_cell BK465.out 1).trans rfl
              have hcz72_2 : wc.cell? ⟨gb465, 2, none⟩ = some (.bool false) := (blk_cell BK465.out 2).trans rfl
              have hcz72_3 : wc.cell? ⟨gb465, 3, none⟩ = some (.int .i64 0) := (blk_cell BK465.out 3).trans rfl
              have hfz72_0 := blk_frozen BK465.out 0
              have hfz72_1 := blk_frozen BK465.out 1
              have hfz72_2 := blk_frozen BK465.out 2
              have hfz72_3 := blk_frozen BK465.out 3
              go_wp2
              refine bodyPost_ret (results_ct rfl _ _ gb465 36 #[.int .i64 a0_0, .slice (some ad466) l0_1.length co16, .bool a0_2, .int .i64 a0_3] (0, 0) _ rfl (by (with_reducible repeat (first | refine blk_drewN ?_ _ | refine blk_drew ?_ | refine blk_alloc ?_ _)); refine blk_put (cs := #[.int .i64 a0_0, .slice (some ad466) l0_1.length co16, .bool a0_2, .int .i64 0]) ?_ 3 _ (by first | rfl | (simp only [gt_iff_lt, *]; rfl) | (simp [*]; done)); (with_reducible repeat (first | refine blk_drewN ?_ _ | refine blk_drew ?_ | refine blk_alloc ?_ _)); refine blk_put (cs := #[.int .i64 a0_0, .slice (some ad466) l0_1.length co16, .bool false, .int .i64 0]) ?_ 2 _ (by first | rfl | (simp only [gt_iff_lt, *]; rfl) | (simp [*]; done)); (with_reducible repeat (first | refine blk_drewN ?_ _ | refine blk_drew ?_ | refine blk_alloc ?_ _)); refine blk_put (cs := #[.int .i64 a0_0, .slice none 0 0, .bool false, .int .i64 0]) ?_ 1 _ (by first | rfl | (simp only [gt_iff_lt, *]; rfl) | (simp [*]; done)); (with_reducible repeat (first | refine blk_drewN ?_ _ | refine blk_drew ?_ | refine blk_alloc ?_ _)); refine blk_put (cs := #[.int .i64 0, .slice none 0 0, .bool false, .int .i64 0]) ?_ 0 _ (by first | rfl | (simp only [gt_iff_lt, *]; rfl) | (simp [*]; done)); (with_reducible repeat (first | refine blk_drewN ?_ _ | refine blk_drew ?_ | refine blk_alloc ?_ _)); exact BK465.out) Tryz.underlying36 rfl (by kernel_rfl)) rfl ?_
              exact ⟨_, by first | rfl | (simp [errW_none, errW_some] <;> rfl) | (simp [*, errW_none, errW_some] <;> rfl), by (with_reducible repeat (first | apply Kd.R_alloc | apply Kd.R_drewN | apply Kd.R_drew)); exact Kd.R_mono (Kd.R_far (p := ⟨gb465, 3, none⟩) (Kd.R_far (p := ⟨gb465, 2, none⟩) (Kd.R_far (p := ⟨gb465, 1, none⟩) (Kd.R_far (p := ⟨gb465, 0, none⟩) (Kd.R_types HO_464001.out BK465.out (by decide)) (fun _ hk => hk.2) (.int .i64 a0_0)) (fun _ hk => hk.2) (.slice (some ad466) l0_1.length co16)) (fun _ hk => hk.2) (.bool a0_2)) (fun _ hk => hk.2) (.int .i64 a0_3)) (fun _ hk => hk.1), by repeat (first | (with_reducible first | exact HB.out | apply below_alloc | apply pw_below_drewN | apply below_drew1 | refine below_set ?_ GE463.out | refine below_set ?_ GE464.out | refine below_set ?_ GE465.out) | exact HB.out), by repeat (first | (with_reducible first | exact HK.out | apply Kept.alloc | apply Kept.drewN | apply Kept.drew | refine Kept.setCell ?_ (.inr GW463.out) _ | refine Kept.setCell ?_ (.inr GW464.out) _ | refine Kept.setCell ?_ (.inr GW465.out) _) | exact HK.out)⟩
  · rw [if_neg c3] at H
    exact absurd H (by simp)
/-! ### files_may: function 110 -/
def files_may.f (a0 : Int) : Option (Bool) := if a0 ≥ 0 then (some (decide (a0 < 1048576))) else (some false)
set_option maxHeartbeats 8000000 in
set_option maxRecDepth 100000 in
theorem files_may.calls (a0 : Int) (r : Bool) (w : World) (h : files_may.f a0 = some r) :
    Calls Tryz.prog 110 #[.int .i64 a0] w fun e w' => e = .returned (.bool r) ∧ Drawn0 w w' := by
  have H : (if a0 ≥ 0 then (some (decide (a0 < 1048576))) else (some false)) = some r := h
  clear h
  by_cases c2 : a0 ≥ 0
  · rw [if_pos c2] at H
    have c2b0 : decide (0 ≤ a0) = true := decide_eq_true c2
    clear c2
    obtain rfl := Option.some.inj H
    go_enter Tryz.func110, Tryz.ntmps110
    go_wp2
    go_ret
    exact ⟨by first | rfl | (simp; done) | (simp [*]; done), by repeat (first | exact Drawn0.refl _ | apply Drawn0.step)⟩
  · rw [if_neg c2] at H
    have c2b0 : decide (0 ≤ a0) = false := decide_eq_false c2
    clear c2
    obtain rfl := Option.some.inj H
    go_enter Tryz.func110, Tryz.ntmps110
    go_wp2
    go_ret
    exact ⟨by first | rfl | (simp; done) | (simp [*]; done), by repeat (first | exact Drawn0.refl _ | apply Drawn0.step)⟩
/-! ### store_last_int: function 114 -/
def store_last_int.f (l0 : List Int) : Option (Int × Bool) := if (l0.length : Int) = 0 then (some (0, false)) else (if 0 ≤ (wrap64 ((l0.length : Int) - 1)) then (if (wrap64 ((l0.length : Int) - 1)) < (l0.length : Int) then (some (rd l0 (wrap64 ((l0.length : Int) - 1)), true)) else (none)) else (none))
set_option maxHeartbeats 8000000 in
set_option maxRecDepth 100000 in
theorem store_last_int.calls (A0 : Option Addr) (c0 : Nat) (l0 : List Int) (r1 : Int) (r2 : Bool) (w : World) (hr0 : Kd.C (Kd.int .i64) w A0 l0.length l0) (hc0 : l0.length ≤ c0) (h : store_last_int.f l0 = some (r1, r2)) :
    Calls Tryz.prog 114 #[.slice A0 l0.length c0] w fun e w' => e = .returned (.tuple #[.int .i64 r1, .bool r2]) ∧ Drawn0 w w' := by
  have HR0 := Aside0.mk hr0
  have HC0 := Aside0.mk hc0
  clear hr0 hc0
  have H : (if (l0.length : Int) = 0 then (some (0, false)) else (if 0 ≤ (wrap64 ((l0.length : Int) - 1)) then (if (wrap64 ((l0.length : Int) - 1)) < (l0.length : Int) then (some (rd l0 (wrap64 ((l0.length : Int) - 1)), true)) else (none)) else (none))) = some (r1, r2) := h
  clear h
  by_cases c2 : (l0.length : Int) = 0
  · rw [if_pos c2] at H
    have c2b0 : ((l0.length : Int) == 0) = true := beq_iff_eq.mpr c2
    have c2b1 : ((l0.length : Int) != 0) = false := bne_eq_false_iff_eq.mpr c2
    clear c2
    simp only [Option.some.injEq, Prod.mk.injEq] at H
    obtain ⟨rfl, rfl⟩ := H
    go_enter Tryz.func114, Tryz.ntmps114
    go_wp2
    go_ret2
    exact ⟨by first | rfl | (simp; done) | (simp [*]; done), by repeat (first | exact Drawn0.refl _ | apply Drawn0.step)⟩
  · rw [if_neg c2] at H
    have c2b0 : ((l0.length : Int) == 0) = false := beq_eq_false_iff_ne.mpr c2
    have c2b1 : ((l0.length : Int) != 0) = true := bne_iff_ne.mpr c2
    have c2b2 : ¬ (l0 = []) := fun h_ => c2 (by rw [h_]; rfl)
    obtain ⟨ji3, hji3⟩ : ∃ j_ : Int, (wrap64 ((l0.length : Int) - 1)) = j_ := ⟨_, rfl⟩
    replace H : (if 0 ≤ (ji3) then (if (ji3) < (l0.length : Int) then (some (rd l0 (ji3), true)) else (none)) else (none)) = some (r1, r2) := by first | (rw [hji3] at H; exact H) | (simp only [hji3] at H ⊢; exact H)
    have hji3w : (IntKind.i64.wrap ((l0.length : Int) - 1)) = ji3 := (i64_w _).trans hji3
    by_cases c4 : 0 ≤ (ji3)
    · rw [if_pos c4] at H
      have c4b0 : decide (0 ≤ (ji3)) = true := decide_eq_true c4
      clear c4
      by_cases c5 : (ji3) < (l0.length : Int)
      · rw [if_pos c5] at H
        have c5b0 : decide ((ji3) < (l0.length : Int)) = true := decide_eq_true c5
        clear c5
        simp only [Option.some.injEq, Prod.mk.injEq] at H
        obtain ⟨rfl, rfl⟩ := H
        have p547 : 0 ≤ ((ji3) : Int) := of_decide_eq_true (by first | (with_reducible assumption) | assumption)
        have q547 : (ji3) < (l0.length : Int) := of_decide_eq_true (by first | (with_reducible assumption) | assumption)
        obtain ⟨ad547, e547, hx547_0⟩ := Kd.at_int HR0.out (ji3) p547 q547
        cases e547
        replace p547 := eq_true p547
        replace q547 := eq_true q547
        go_enter Tryz.func114, Tryz.ntmps114
        go_wp2
        go_ret2
        exact ⟨by first | rfl | (simp; done) | (simp only [← hji3] <;> (first | rfl | simp)) | (simp [*]; done), by repeat (first | exact Drawn0.refl _ | apply Drawn0.step)⟩
      · rw [if_neg c5] at H
        exact absurd H (by simp)
    · rw [if_neg c4] at H
      exact absurd H (by simp)
/-! ### codec_seal: function 23 -/
def codec_seal.f (a0_0 : Int) (l0_1 : List Int) (a0_2 : Bool) (a0_3 : Int) : Option (Int) := if a0_2 = true then (some (wrap64 (a0_3 + 1))) else (some 0)
set_option maxHeartbeats 8000000 in
set_option maxRecDepth 100000 in
theorem codec_seal.calls (a0_0 : Int) (A0_1 : Option Addr) (c0_1 : Nat) (l0_1 : List Int) (a0_2 : Bool) (a0_3 : Int) (r : Int) (w : World) (hr0_1 : Kd.C (Kd.int .i64) w A0_1 l0_1.length l0_1) (hc0_1 : l0_1.length ≤ c0_1) (h : codec_seal.f a0_0 l0_1 a0_2 a0_3 = some r) :
    Calls Tryz.prog 23 #[.agg #[.int .i64 a0_0, .slice A0_1 l0_1.length c0_1, .bool a0_2, .int .i64 a0_3]] w fun e w' => e = .returned (.int .i64 r) ∧ Below w.heap.size w w' := by
  have hu36 := Tryz.underlying36
  have HR0_1 := Aside0.mk hr0_1
  have HC0_1 := Aside0.mk hc0_1
  clear hr0_1 hc0_1
  have HB := Aside0.mk (Below.refl w.heap.size w)
  have H : (if a0_2 = true then (some (wrap64 (a0_3 + 1))) else (some 0)) = some r := h
  clear h
  by_cases c2 : a0_2 = true
  · subst c2
    have H1 : (some (wrap64 (a0_3 + 1))) = some r := by rw [if_pos rfl] at H; exact H
    clear H
    have H := H1
    clear H1
    obtain rfl := Option.some.inj H
    go_enter Tryz.func23, Tryz.ntmps23
    go_wp2_with (first | ((with_reducible refine gate_dst (N := 1) rfl ?_); refine box_event ?hg (N := 1) ?hd (cs := #[.int .i64 a0_0, .slice A0_1 l0_1.length c0_1, .bool true, .int .i64 a0_3]) (t := 36) ?hr ?_; (case hd => rfl); (case hg => rfl); (case hr => first | (go_simp; done) | (go_simp; rfl)); intro gb598 hg w3 hbox hb; have n0_ := Aside0.mk (below_step (by repeat (first | (with_reducible first | exact HB.out | apply below_alloc | apply pw_below_drewN | apply below_drew1) | exact HB.out)) hb); have n1_ := Aside0.mk (hbox); have n2_ := Aside0.mk ((by rw [hg]; exact (below_size (by repeat (first | (with_reducible first | exact HB.out | apply below_alloc | apply pw_below_drewN | apply below_drew1) | exact HB.out))) : w.heap.size ≤ gb598)); have n3_ := Aside0.mk ((by rw [hg]; exact (below_size (by repeat (first | (with_reducible first | exact HB.out | apply below_alloc | apply pw_below_drewN | apply below_drew1) | exact HB.out))) : w.heap.size ≤ gb598)); clear HB; have HB := n0_; have BK598 := n1_; have GW598 := n2_; have GE598 := n3_; clear n0_ n1_ n2_ n3_; clear hb hbox hg; have hcz4_0 : w3.cell? ⟨gb598, 0, none⟩ = some (.int .i64 a0_0) := (blk_cell BK598.out 0).trans rfl; have hcz4_1 : w3.cell? ⟨gb598, 1, none⟩ = some (.slice A0_1 l0_1.length c0_1) := (blk_cell BK598.out 1).trans rfl; have hcz4_2 : w3.cell? ⟨gb598, 2, none⟩ = some (.bool true) := (blk_cell BK598.out 2).trans rfl; have hcz4_3 : w3.cell? ⟨gb598, 3, none⟩ = some (.int .i64 a0_3) := (blk_cell BK598.out 3).trans rfl; have hfz4_0 := blk_frozen BK598.out 0; have hfz4_1 := blk_frozen BK598.out 1; have hfz4_2 := blk_frozen BK598.out 2; have hfz4_3 := blk_frozen BK598.out 3))
    go_ret
    exact ⟨by first | rfl | (simp [errW_none, errW_some] <;> rfl) | (simp [*, errW_none, errW_some] <;> rfl), by repeat (first | (with_reducible first | exact HB.out | apply below_alloc | apply pw_below_drewN | apply below_drew1 | refine below_set ?_ GE598.out) | exact HB.out)⟩
  · replace c2 := Bool.eq_false_iff.mpr c2
    subst c2
    have H1 : (some 0) = some r := by rw [if_neg (show ¬ (false = true) by decide)] at H; exact H
    clear H
    have H := H1
    clear H1
    obtain rfl := Option.some.inj H
    go_enter Tryz.func23, Tryz.ntmps23
    go_wp2_with (first | ((with_reducible refine gate_dst (N := 1) rfl ?_); refine box_event ?hg (N := 1) ?hd (cs := #[.int .i64 a0_0, .slice A0_1 l0_1.length c0_1, .bool false, .int .i64 a0_3]) (t := 36) ?hr ?_; (case hd => rfl); (case hg => rfl); (case hr => first | (go_simp; done) | (go_simp; rfl)); intro gb598 hg w5 hbox hb; have n0_ := Aside0.mk (below_step (by repeat (first | (with_reducible first | exact HB.out | apply below_alloc | apply pw_below_drewN | apply below_drew1) | exact HB.out)) hb); have n1_ := Aside0.mk (hbox); have n2_ := Aside0.mk ((by rw [hg]; exact (below_size (by repeat (first | (with_reducible first | exact HB.out | apply below_alloc | apply pw_below_drewN | apply below_drew1) | exact HB.out))) : w.heap.size ≤ gb598)); have n3_ := Aside0.mk ((by rw [hg]; exact (below_size (by repeat (first | (with_reducible first | exact HB.out | apply below_alloc | apply pw_below_drewN | apply below_drew1) | exact HB.out))) : w.heap.size ≤ gb598)); clear HB; have HB := n0_; have BK598 := n1_; have GW598 := n2_; have GE598 := n3_; clear n0_ n1_ n2_ n3_; clear hb hbox hg; have hcz6_0 : w5.cell? ⟨gb598, 0, none⟩ = some (.int .i64 a0_0) := (blk_cell BK598.out 0).trans rfl; have hcz6_1 : w5.cell? ⟨gb598, 1, none⟩ = some (.slice A0_1 l0_1.length c0_1) := (blk_cell BK598.out 1).trans rfl; have hcz6_2 : w5.cell? ⟨gb598, 2, none⟩ = some (.bool false) := (blk_cell BK598.out 2).trans rfl; have hcz6_3 : w5.cell? ⟨gb598, 3, none⟩ = some (.int .i64 a0_3) := (blk_cell BK598.out 3).trans rfl; have hfz6_0 := blk_frozen BK598.out 0; have hfz6_1 := blk_frozen BK598.out 1; have hfz6_2 := blk_frozen BK598.out 2; have hfz6_3 := blk_frozen BK598.out 3))
    go_ret
    exact ⟨by first | rfl | (simp [errW_none, errW_some] <;> rfl) | (simp [*, errW_none, errW_some] <;> rfl), by repeat (first | (with_reducible first | exact HB.out | apply below_alloc | apply pw_below_drewN | apply below_drew1 | refine below_set ?_ GE598.out) | exact HB.out)⟩

end Go.Proofs.YtgljebaiakhbfaaGreat.QTopForms
