/- What this text proves: what the store's find does at a disk that has no files; condition: the blocks. what opening a store on an empty disk does; condition: the blocks. what world.New does for one counter with one follower; no condition. -/
import Derived.Test.YtgljebaiakhbfaaGreatAwFollow
namespace Go.Proofs.YtgljebaiakhbfaaGreat.Aw
open Go.RowKit Go.Maps Go.Sort Go.Shelf Go.Proofs Go.Proofs.YtgljebaiakhbfaaGreatW.PrintWords Go.Proofs.YtgljebaiakhbfaaGreatW.PrintLast Go.Proofs.YtgljebaiakhbfaaGreatW.PrintMore
set_option linter.unusedVariables false
set_option maxRecDepth 100000
set_option maxHeartbeats 4000000
theorem find_calls (s d M : Nat) (p0 p1 p2 p3 p4 p5 room kept waits out armed left : Value) (w : World)
    (hS : Fresh w s d (.slice none 0 0) p0 p1 p2 p3 p4 p5) (hD : DiskAt w d room kept (.map (some M)) waits out armed left) (hM : w.heap[M]? = some (.map #[] 0)) :
    Calls Tryz.prog 57 #[.pointer (some ⟨s, 0, none⟩)] w fun e w' => e = .returned (.tuple #[]) ∧
      (∃ b A n c, Fresh w' s d (.slice (some ⟨b, 0, none⟩) 1 1) p0 p1 p2 p3 p4 p5 ∧ SnapAt w' b 0 0 A n c false 0 none 0 0 ∧ Row 1 3 w' (.slice A n c) [[.int .i64 0]] ∧ w.heap.size ≤ b) ∧ Below 0 w w' ∧ Kept w w' (fun k => k = s) := by
  have hc := fun i => blk_cell hS i
  have hd := fun i => blk_frozen hS i
  have hlt := blk_lt hS
  have hne := Nat.ne_of_lt hlt
  go_enter Tryz.func57, Tryz.ntmps57
  go_upto_region 1 with (go_at_call 61; refine (start_calls _).mono ?_; rintro e w1 ⟨v1, rfl, ho, hb⟩; obtain ⟨A, c, rfl⟩ := Kd.R_slice ho; have hS1 := blk_below hS hb; have hc1 := (fun i => blk_cell hS1 i); have hd1 := (fun i => blk_frozen hS1 i); have hlt1 := blk_lt hS1; have hne1 := Nat.ne_of_lt hlt1; have HO := Aside0.mk (show Row 1 3 w1 (.slice A 1 c) [[.int .i64 0]] from row_of_int ho); have HB := Aside0.mk hb; clear ho hb)
  have hds : d ≠ s := blk_ne hD hS (by decide)
  have hMs : M ≠ s := fun h => by
    rw [h] at hM
    have := hM.symm.trans hS
    simp at this
  have hG0 : ((w1.setCell ⟨s, 2, none⟩ (.slice (some ⟨w1.heap.size, 0, none⟩) 1 1)).alloc (.cells #[.int .i64 0, .int .i64 0, .slice A 1 c, .bool false, .int .i64 0, .slice none 0 0] 51)).heap[w1.heap.size]? = some (.cells #[.int .i64 0, .int .i64 0, .slice A 1 c, .bool false, .int .i64 0, .slice none 0 0] 51 (0, 0)) := by
    have := blk_new (w1.setCell ⟨s, 2, none⟩ (.slice (some ⟨w1.heap.size, 0, none⟩) 1 1)) (.cells #[.int .i64 0, .int .i64 0, .slice A 1 c, .bool false, .int .i64 0, .slice none 0 0] 51)
    rwa [World.size_setCell] at this
  refine cont (fun wb => Fresh wb s d (.slice (some ⟨w1.heap.size, 0, none⟩) 1 1) p0 p1 p2 p3 p4 p5 ∧ SnapAt wb w1.heap.size 0 0 A 1 c false 0 none 0 0 ∧ Row 1 3 wb (.slice A 1 c) [[.int .i64 0]] ∧ DiskAt wb d room kept (.map (some M)) waits out armed left ∧ wb.heap[M]? = some (.map #[] 0) ∧ Below 0 w wb ∧ Kept w wb (fun k => k = s))
    ⟨by (apply blk_is; (focus (repeat (first | (with_reducible exact hS1) | (with_reducible apply blk_alloc) | (with_reducible apply blk_drew) | (with_reducible apply blk_drewN) | (with_reducible apply blk_set) | ((with_reducible apply blk_far2); (focus (first | omega | (simp; done) | (simp; omega))))))); (focus rfl)), hG0, by (repeat (first | (with_reducible exact HO.out) | (with_reducible apply Row.alloc) | (with_reducible apply Row.drew) | (with_reducible apply Row.drewN) | ((with_reducible apply Row.set2); (focus (repeat (first | (with_reducible exact hS1) | (with_reducible apply blk_alloc) | (with_reducible apply blk_drew) | (with_reducible apply blk_drewN) | (with_reducible apply blk_set) | ((with_reducible apply blk_far2); (focus (first | omega | (simp; done) | (simp; omega))))))); (focus decide)))), by (apply blk_is; (focus (repeat (first | (with_reducible exact (blk_below hD HB.out)) | (with_reducible apply blk_alloc) | (with_reducible apply blk_drew) | (with_reducible apply blk_drewN) | (with_reducible apply blk_set) | ((with_reducible apply blk_far2); (focus (first | omega | (simp; done) | (simp; omega))))))); (focus rfl)), blk_alloc ((Below.heap_setCell w1 _ _ M hMs).trans (blk_below hM HB.out)) _, (((below_zero HB.out).setCell (Nat.zero_le _) _).alloc (Nat.zero_le _) _), (((Kept.of_below HB.out (fun k => k = s)).setCell (.inl rfl) _).alloc _)⟩ ?_
  rintro wb ⟨hSb, hGb, hRb, hDb, hMb, hZb, hKb⟩
  have hgb : w.heap.size ≤ w1.heap.size := HB.out.size
  have hltb := blk_lt hSb
  have hneb := Nat.ne_of_lt hltb
  have hsg : s ≠ w1.heap.size := hne1
  have hcb := fun i => blk_cell hSb i
  have hdb := fun i => blk_frozen hSb i
  have HF := Aside0.mk (And.intro hRb (And.intro hDb (And.intro hMb (And.intro hZb hKb))))
  have HG := Aside0.mk hGb
  clear hG0 hds hMs hc hd hc1 hd1 hS1 hlt1 hne1 HO HB hRb hDb hMb hZb hKb hGb hS hD hM hlt hne
  have HN := Aside0.mk (fun (k : Int) W (h : Below wb.heap.size wb W) => names_calls d M k room kept waits out armed left W (blk_below HF.out.2.1 h) (blk_below HF.out.2.2.1 h))
  have HBs := Aside0.mk (fun W (h : Below wb.heap.size wb W) => base_calls s w1.heap.size _ _ _ _ _ _ _ _ _ _ _ _ _ _ 0 0 A 1 c false 0 none 0 0 _ [] W (blk_below hSb h) (blk_below HG.out h) (HF.out.1.below h) (Row.nil _ _ _) (by decide) (by decide) (fun _ => rfl))
  have hfl := fun A1 n1 c1 B1 m1 d1 => field0 0 0 A1 n1 c1 false 0 B1 m1 d1
  dsimp only [snapV] at hfl
  go_wp2_with (go_at_call 94; refine (HN.out 3 _ (Below.refl _ _)).mono ?_; rintro e w2 ⟨rfl, hb⟩; have hS2 := blk_below hSb hb; have hc2 := (fun i => blk_cell hS2 i); have hd2 := (fun i => blk_frozen hS2 i); have HB2 := Aside0.mk hb; clear hb)
  refine wp_loop_rounds 1 ?_
  rw [rounds_succ]
  clear hcb hdb
  go_wp2_with (first
    | (go_at_call 59; refine (HBs.out _ HB2.out).mono ?_; rintro e w3 ⟨⟨v, rfl, ⟨A1, n1, c1, B1, m1, d1, rfl, ho1, ho2, hz, hf⟩⟩, hb⟩; clear hf; obtain ⟨HB3⟩ : Aside0 (Below wb.heap.size wb w3) := ⟨below_step HB2.out hb⟩; have hS3 := blk_below hSb HB3; have hc3 := (fun i => blk_cell hS3 i); have hd3 := (fun i => blk_frozen hS3 i); have HB3' := Aside0.mk HB3; clear hb ho1 ho2 hz HB3 hc2 hd2 hS2; dsimp only [snapV])
    | (go_at_call 94; refine (names_calls d M 2 room kept waits out armed left _ (blk_far (blk_below HF.out.2.1 HB3'.out) (blk_ne HF.out.2.1 hSb (by decide)) _) ((Below.heap_setCell w3 _ _ M (by intro h; subst h; have := HF.out.2.2.1.symm.trans hSb; simp at this)).trans (blk_below HF.out.2.2.1 HB3'.out))).mono ?_; rintro e w4 ⟨rfl, hb⟩; have hS4 := blk_below (blk_set hS3 5 _) hb; have HB4 := Aside0.mk hb; clear hb))
  refine wp_loop_rounds 1 ?_
  rw [rounds_succ]
  go_wp2
  go_end0
  refine ⟨rfl, ⟨w1.heap.size, A, 1, c, blk_is hS4 rfl, blk_below (blk_far (blk_below HG.out HB3'.out) (Ne.symm hsg) _) HB4.out, ?_, hgb⟩, ?_, ?_⟩
  · exact Row.below (Row.set2 hS3 (by decide) (HF.out.1.below HB3'.out)) HB4.out
  · exact ((HF.out.2.2.2.1.trans (below_zero HB3'.out)).setCell (Nat.zero_le _) _).trans (below_zero HB4.out)
  · exact ((HF.out.2.2.2.2.below HB3'.out).setCell (.inl rfl) _).below HB4.out
end Go.Proofs.YtgljebaiakhbfaaGreat.Aw
namespace Go.Proofs.YtgljebaiakhbfaaGreat.Aw
open Go.RowKit Go.Maps Go.Sort Go.Shelf Go.Proofs Go.Proofs.YtgljebaiakhbfaaGreatW.PrintWords Go.Proofs.YtgljebaiakhbfaaGreatW.PrintLast Go.Proofs.YtgljebaiakhbfaaGreatW.PrintMore
set_option linter.unusedVariables false
set_option maxRecDepth 100000
set_option maxHeartbeats 4000000
theorem open_calls (d M : Nat) (room kept waits armed left : Value) (w : World)
    (hD : DiskAt w d room kept (.map (some M)) waits (.bool false) armed left) (hM : w.heap[M]? = some (.map #[] 0)) :
    Calls Tryz.prog 29 #[.pointer (some ⟨d, 0, none⟩), .int .i64 0] w fun e w' => ∃ s bases A n c, e = .returned (.tuple #[.pointer (some ⟨s, 0, none⟩), .int .i64 0]) ∧
      Fresh w' s d bases (.int .i64 0) (.int .i64 0) (.slice A n c) (.bool false) (.int .i64 0) (.slice none 0 0) ∧ Row 1 3 w' (.slice A n c) [[.int .i64 0]] ∧ w.heap.size ≤ s ∧ (∀ k, (Value.slice A n c).ownBlock = some k → w.heap.size ≤ k) ∧ Below w.heap.size w w' := by
  have HD := Aside0.mk hD
  have HM := Aside0.mk hM
  clear hD hM
  go_enter Tryz.func29, Tryz.ntmps29
  go_upto_region 6 with (go_at_call 56; refine (on_calls d _ _ _ _ _ _ _ _ HD.out).mono ?_; rintro e w1 ⟨rfl, hb⟩; have HB1 := Aside0.mk hb; clear hb; dsimp only [Bool.not_false])
  have hw1 := HB1.out.size
  refine cont (fun wb => Fresh wb w1.heap.size d (.slice none 0 0) (.int .i64 0) (.int .i64 0) (.slice none 0 0) (.bool false) (.int .i64 0) (.slice none 0 0) ∧ DiskAt wb d room kept (.map (some M)) waits (.bool false) armed left ∧ wb.heap[M]? = some (.map #[] 0) ∧ Below w.heap.size w wb) ⟨blk_new w1 _, blk_alloc (blk_below HD.out HB1.out) _, blk_alloc (blk_below HM.out HB1.out) _, below_alloc HB1.out _⟩ ?_
  rintro wb ⟨hSb, hDb, hMb, hBb⟩
  have HDb := Aside0.mk hDb
  have HMb := Aside0.mk hMb
  have HBb := Aside0.mk hBb
  clear hDb hMb hBb HD HM HB1
  go_wp2_with (first
    | (go_at_call 57; refine (find_calls w1.heap.size d M _ _ _ _ _ _ _ _ _ _ _ _ _ hSb HDb.out HMb.out).mono ?_; rintro e w2 ⟨rfl, ⟨b, A, n, c, hS2, hG2, hR2, hb2⟩, hz, hk⟩; have HF2 := Aside0.mk (And.intro hS2 (And.intro hG2 hR2)); have HB2 := Aside0.mk (below_kept HBb.out hk hz (by rintro k rfl; exact hw1)); clear hS2 hG2 hR2 hz hk)
    | (go_at_call 58; refine (follow_calls w1.heap.size d b _ _ _ _ _ _ A n c _ HF2.out.1 HF2.out.2.1 HF2.out.2.2).mono ?_; rintro e w3 ⟨rfl, ⟨A3, n3, c3, hS3, hR3, hf⟩, hz, hk⟩; have HFr := Aside0.mk (fun k hk => Nat.le_trans HB2.out.size (hf k hk)); clear hf; have hlt3 := blk_lt hS3; have hne3 := Nat.ne_of_lt hlt3; have hc3 := (fun i => blk_cell hS3 i); have hd3 := (fun i => blk_frozen hS3 i); have HR3 := Aside0.mk hR3; have HB3 := Aside0.mk (below_kept HB2.out hk hz (by rintro k rfl; exact hw1)); clear hR3 hz hk)
    | (go_at_call 60; refine (next_calls w1.heap.size 0 0 none 0 _ _ _ _ _ _ _ _ _ _ _ _ _ _ hS3).mono ?_; rintro e w4 ⟨rfl, hb⟩; have hS4 := blk_below hS3 hb; have hc4 := (fun i => blk_cell hS4 i); have hd4 := (fun i => blk_frozen hS4 i); have HB4 := Aside0.mk hb; clear hb hc3 hd3; rw [show wrap64 (0 + ((0 : Nat) : Int)) = 0 from by rw [← i64_w]; decide]))
  go_ret2
  exact ⟨w1.heap.size, _, A3, n3, c3, rfl, by (apply blk_is; (focus (repeat (first | (with_reducible exact hS4) | (with_reducible apply blk_alloc) | (with_reducible apply blk_drew) | (with_reducible apply blk_drewN) | (with_reducible apply blk_set) | ((with_reducible apply blk_far2); (focus (first | omega | (simp; done) | (simp; omega))))))); (focus rfl)), Row.set2 hS4 (by decide) (HR3.out.below HB4.out), hw1, HFr.out, below_set (below_step HB3.out HB4.out) hw1⟩
end Go.Proofs.YtgljebaiakhbfaaGreat.Aw
namespace Go.Proofs.YtgljebaiakhbfaaGreat.Aw
open Go.RowKit Go.Maps Go.Sort Go.Shelf Go.Proofs Go.Proofs.YtgljebaiakhbfaaGreatW.PrintWords Go.Proofs.YtgljebaiakhbfaaGreatW.PrintLast Go.Proofs.YtgljebaiakhbfaaGreatW.PrintMore
set_option linter.unusedVariables false
set_option maxRecDepth 100000
set_option maxHeartbeats 4000000
theorem filesNew_calls (w : World) :
    Calls Tryz.prog 27 #[.int .i64 10000] w fun e w' => ∃ d K M, e = .returned (.pointer (some ⟨d, 0, none⟩)) ∧
      DiskAt w' d (.int .i64 10000) (.map (some K)) (.map (some M)) (.slice none 0 0) (.bool false) (.bool false) (.int .i64 0) ∧ w'.heap[M]? = some (.map #[] 0) ∧ w.heap.size ≤ d ∧ w.heap.size ≤ M ∧ Below w.heap.size w w' := by
  have hmm := @run_makeMap Tryz.prog
  go_enter Tryz.func27, Tryz.ntmps27
  go_wp2
  go_ret
  exact ⟨_, _, _, rfl, new3 _ _ _ _, blk_alloc (new2 _ _ _) _, by omega, by omega, by (repeat (first | (with_reducible exact Below.refl _ _) | (with_reducible apply below_alloc) | (with_reducible apply below_drew1) | (with_reducible apply pw_below_drewN)))⟩
theorem netNew_calls (w : World) :
    Calls Tryz.prog 28 #[] w fun e w' => ∃ g, e = .returned (.pointer (some ⟨g, 0, none⟩)) ∧ Below w.heap.size w w' := by
  go_enter Tryz.func28, Tryz.ntmps28
  go_wp2
  go_ret
  exact ⟨_, rfl, by (repeat (first | (with_reducible exact Below.refl _ _) | (with_reducible apply below_alloc) | (with_reducible apply below_drew1) | (with_reducible apply pw_below_drewN)))⟩
theorem shipFollow_calls (w : World) :
    Calls Tryz.prog 30 #[.int .i64 1, .int .i64 0] w fun e w' => ∃ g, e = .returned (.tuple #[.pointer (some ⟨g, 0, none⟩), .int .i64 0]) ∧ Below w.heap.size w w' := by
  go_enter Tryz.func30, Tryz.ntmps30
  go_wp2_with (go_at_call 61; refine (start_calls _).mono ?_; rintro e w1 ⟨v1, rfl, ho, hb⟩; obtain ⟨A, c, rfl⟩ := Kd.R_slice ho; have HB := Aside0.mk hb; clear ho hb)
  go_ret2
  exact ⟨_, rfl, below_alloc HB.out _⟩
/-- A world's block. -/
abbrev WorldAt (w : World) (g : Nat) (kind disk store net followers knows : Value) : Prop :=
  w.heap[g]? = some (.cells #[kind, disk, store, net, followers, knows] 75 (0, 0))
theorem infoP : (Tryz.prog.info? 78).map (fun i => (i.zero, i.size, i.bytes)) = some (some (.pointer none), 1, 8) := by kernel_rfl
theorem make1 (W : World) : (Instr.makeSlice 34 (.int .i64 1) (.int .i64 1)).run Tryz.prog W = .ok (.slice (some ⟨W.heap.size, 0, none⟩) 1 1) (W.alloc (.cells #[.int .i64 0] 3)) := by
  have h := infoI
  cases hi : Tryz.prog.info? 3 with
  | none => rw [hi] at h; simp at h
  | some i =>
    rw [hi] at h
    simp only [Option.map_some, Option.some.injEq, Prod.mk.injEq] at h
    obtain ⟨h1, h2, h3⟩ := h
    rw [run_makeSlice W 34 3 i (.int .i64 0) Tryz.underlying34 hi h1 .i64 .i64 1 1 (by decide) (by decide) (by rw [h2]; decide) (by rw [h3]; decide) (by decide), h2]
    have h1 : Array.range 1 = #[0] := by decide
    simp [madeCells, Value.cells, h1]
theorem new_calls (w : World) :
    Calls Tryz.prog 12 #[.int .i64 0, .int .i64 1, .int .i64 10000] w fun e w' => ∃ g s d K M bases A n c net followers knows, e = .returned (.tuple #[.pointer (some ⟨g, 0, none⟩), .int .i64 0]) ∧
      WorldAt w' g (.int .i64 0) (.pointer (some ⟨d, 0, none⟩)) (.pointer (some ⟨s, 0, none⟩)) net followers knows ∧
      Fresh w' s d bases (.int .i64 0) (.int .i64 0) (.slice A n c) (.bool false) (.int .i64 0) (.slice none 0 0) ∧ Row 1 3 w' (.slice A n c) [[.int .i64 0]] ∧
      DiskAt w' d (.int .i64 10000) (.map (some K)) (.map (some M)) (.slice none 0 0) (.bool false) (.bool false) (.int .i64 0) ∧ w'.heap[M]? = some (.map #[] 0) ∧ (w.heap.size ≤ g ∧ w.heap.size ≤ s ∧ w.heap.size ≤ d ∧ w.heap.size ≤ M ∧ ∀ k, (Value.slice A n c).ownBlock = some k → w.heap.size ≤ k) ∧ Below w.heap.size w w' := by
  have hms := make1
  go_enter Tryz.func12, Tryz.ntmps12
  go_upto_region 3 with fail
  go_cut [8] (fun v8 w5 => ∃ g d K M net knows, v8 = .pointer (some ⟨g, 0, none⟩) ∧ WorldAt w5 g (.int .i64 0) (.pointer (some ⟨d, 0, none⟩)) (.pointer none) net (.slice none 0 0) knows ∧
      DiskAt w5 d (.int .i64 10000) (.map (some K)) (.map (some M)) (.slice none 0 0) (.bool false) (.bool false) (.int .i64 0) ∧ w5.heap[M]? = some (.map #[] 0) ∧ (w.heap.size ≤ g ∧ w.heap.size ≤ d ∧ w.heap.size ≤ M) ∧ Below w.heap.size w w5)
  case first =>
    go_region_with (first
      | (go_at_call 27; refine (filesNew_calls _).mono ?_; rintro e w1 ⟨d, K, M, rfl, hD, hM, hsd, hsM, hb⟩)
      | (go_at_call 28; refine (netNew_calls _).mono ?_; rintro e w2 ⟨N, rfl, hb2⟩))
    all_goals (go_wp2_with fail)
    all_goals go_meet
    all_goals (case rel =>
      first | refine ⟨_, d, K, M, _, _, rfl, new2 _ _ _, ?_, ?_, ?_, ?_⟩ | refine ⟨_, d, K, M, _, _, rfl, blk_new _ _, ?_, ?_, ?_, ?_⟩
      · first | (with_reducible exact blk_alloc (blk_alloc (blk_below hD hb2) _) _) | (with_reducible exact blk_alloc (blk_below (blk_alloc hD _) hb2) _) | (with_reducible exact blk_alloc (blk_below hD hb2) _)
      · first | (with_reducible exact blk_alloc (blk_alloc (blk_below hM hb2) _) _) | (with_reducible exact blk_alloc (blk_below (blk_alloc hM _) hb2) _) | (with_reducible exact blk_alloc (blk_below hM hb2) _)
      · have z1 : w.heap.size ≤ w2.heap.size := Nat.le_trans (below_step (by (repeat (first | (with_reducible exact Below.refl _ _) | (with_reducible apply below_alloc) | (with_reducible apply below_drew1) | (with_reducible apply pw_below_drewN)))) hb : Below w.heap.size w w1).size (below_step (by (repeat (first | (with_reducible exact Below.refl _ _) | (with_reducible apply below_alloc) | (with_reducible apply below_drew1) | (with_reducible apply pw_below_drewN)))) hb2 : Below w1.heap.size w1 w2).size
        have z2 : w.heap.size ≤ d := Nat.le_trans (by (repeat (first | (with_reducible exact Below.refl _ _) | (with_reducible apply below_alloc) | (with_reducible apply below_drew1) | (with_reducible apply pw_below_drewN))) : Below w.heap.size w _).size hsd
        have z3 : w.heap.size ≤ M := Nat.le_trans (by (repeat (first | (with_reducible exact Below.refl _ _) | (with_reducible apply below_alloc) | (with_reducible apply below_drew1) | (with_reducible apply pw_below_drewN))) : Below w.heap.size w _).size hsM
        exact ⟨by omega, z2, z3⟩
      · have hb0 : Below w.heap.size w w1 := below_step (by (repeat (first | (with_reducible exact Below.refl _ _) | (with_reducible apply below_alloc) | (with_reducible apply below_drew1) | (with_reducible apply pw_below_drewN)))) hb
        have hb3 : Below w1.heap.size w1 w2 := below_step (by (repeat (first | (with_reducible exact Below.refl _ _) | (with_reducible apply below_alloc) | (with_reducible apply below_drew1) | (with_reducible apply pw_below_drewN)))) hb2
        have hb4 := below_step hb0 hb3
        repeat (first | (with_reducible exact hb4) | (with_reducible apply below_alloc)))
  case rest =>
    obtain ⟨g, d, K, M, net, knows, rfl, hG, hD, hM, hsz, hB⟩ := hcut
    have HD := Aside0.mk hD
    have HM := Aside0.mk hM
    have HB := Aside0.mk hB
    have HZ := Aside0.mk hsz
    have hlt := blk_lt hG
    have hne := Nat.ne_of_lt hlt
    have hc := fun i => blk_cell hG i
    have hd := fun i => blk_frozen hG i
    clear hD hM hB hms hsz
    go_wp2_with (go_at_call 29; refine (open_calls d M _ _ _ _ _ _ HD.out HM.out).mono ?_; rintro e w6 ⟨s, bases, A, n, c, rfl, hS, hR, hs, hf, hb⟩; have HFr := Aside0.mk (fun k hk => Nat.le_trans HB.out.size (hf k hk)); clear hf; have HF := Aside0.mk (And.intro hS (And.intro hR hs)); have hG6 := blk_below hG hb; have HB6 := Aside0.mk hb; have hlt6 := blk_lt hG6; have hne6 := Nat.ne_of_lt hlt6; have hc6 := (fun i => blk_cell hG6 i); have hd6 := (fun i => blk_frozen hG6 i); clear hS hR hs hb hc hd)
    have hgs : s ≠ g := blk_ne HF.out.1 hG6 (by decide)
    have hgd : d ≠ g := blk_ne HD.out hG (by decide)
    have hgM : M ≠ g := by
      intro h
      subst h
      have := HM.out.symm.trans hG
      simp at this
    refine cont (fun w7 => WorldAt w7 g (.int .i64 0) (.pointer (some ⟨d, 0, none⟩)) (.pointer (some ⟨s, 0, none⟩)) net (.slice none 0 0) knows ∧ Fresh w7 s d bases (.int .i64 0) (.int .i64 0) (.slice A n c) (.bool false) (.int .i64 0) (.slice none 0 0) ∧ Row 1 3 w7 (.slice A n c) [[.int .i64 0]] ∧
      DiskAt w7 d (.int .i64 10000) (.map (some K)) (.map (some M)) (.slice none 0 0) (.bool false) (.bool false) (.int .i64 0) ∧ w7.heap[M]? = some (.map #[] 0) ∧ Below w.heap.size w w7)
      ⟨blk_is (blk_set hG6 2 _) rfl, blk_far HF.out.1 hgs _, Row.set2 hG6 (by decide) HF.out.2.1, blk_far (blk_below HD.out HB6.out) hgd _, (Below.heap_setCell w6 _ _ M hgM).trans (blk_below HM.out HB6.out), below_set (below_step HB.out HB6.out) HZ.out.1⟩ ?_
    rintro w7 ⟨hG7, hS7, hR7, hD7, hM7, hB7⟩
    have HF7 := Aside0.mk (And.intro hS7 (And.intro hR7 (And.intro hD7 (And.intro hM7 hB7))))
    have HS := Aside0.mk (Nat.le_trans HB.out.size HF.out.2.2)
    clear hS7 hR7 hD7 hM7 hB7 HF HD HM HB HB6 hlt6 hne6 hc6 hd6 hG6 hG hlt hne hgs hgd hgM
    have hlt := blk_lt hG7
    have hne := Nat.ne_of_lt hlt
    have hc := fun i => blk_cell hG7 i
    have hd := fun i => blk_frozen hG7 i
    refine wp_loop_rounds 2 ?_
    rw [rounds_succ]
    go_wp2_with (first
      | (go_at_call 30; refine (shipFollow_calls _).mono ?_; rintro e w8 ⟨f, rfl, hb⟩; have hG8 := blk_below hG7 hb; have HB8 := Aside0.mk hb; have hlt8 := blk_lt hG8; have hne8 := Nat.ne_of_lt hlt8; have hc8 := (fun i => blk_cell hG8 i); have hd8 := (fun i => blk_frozen hG8 i); clear hb hc hd)
      | ((with_reducible refine gate_builtin (b := .append) (xs := #[.tmp 61, .tmp 63]) rfl ?_); at_builtin; refine nil_append (sz := 1) (e := 78) rfl (.tmp 61) (.tmp 63) 73 (.pointer none) 8 rfl Tryz.underlying73 infoP rfl (by decide) (by decide) [.pointer (some ⟨f, 0, none⟩)] rfl (by intro u hu; simp only [List.mem_singleton] at hu; rw [hu]; rfl) rfl rfl (by decide) ?_; intro A9 c9 w9 ho hb; have hG9 := blk_below hG8 hb; have hc9 := (fun i => blk_cell hG9 i); have hd9 := (fun i => blk_frozen hG9 i); have HB9 := Aside0.mk hb; clear ho hb))
    rw [rounds_succ]
    go_wp2
    go_ret2
    have HB := Aside0.mk (below_step HB8.out HB9.out)
    have hgs : s ≠ g := blk_ne HF7.out.1 hG7 (by decide)
    have hgd : d ≠ g := blk_ne HF7.out.2.2.1 hG7 (by decide)
    have hgM : M ≠ g := by
      intro h
      subst h
      have := HF7.out.2.2.2.1.symm.trans hG7
      simp at this
    exact ⟨g, s, d, K, M, bases, A, n, c, net, _, knows, rfl, blk_is (blk_set hG9 4 _) rfl, blk_far (blk_below HF7.out.1 HB.out) hgs _, Row.set2 hG9 (by decide) (HF7.out.2.1.below HB.out), blk_far (blk_below HF7.out.2.2.1 HB.out) hgd _,
      (Below.heap_setCell w9 _ _ M hgM).trans (blk_below HF7.out.2.2.2.1 HB.out), ⟨HZ.out.1, HS.out, HZ.out.2.1, HZ.out.2.2, HFr.out⟩, below_set (below_step HF7.out.2.2.2.2 HB.out) HZ.out.1⟩
end Go.Proofs.YtgljebaiakhbfaaGreat.Aw
