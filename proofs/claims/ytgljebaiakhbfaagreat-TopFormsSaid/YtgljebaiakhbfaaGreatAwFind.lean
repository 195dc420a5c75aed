/- What this text proves: what the store's find does at a disk that has no files; condition: the blocks. -/
import Derived.Test.YtgljebaiakhbfaaGreatAwFollow
namespace Go.Proofs.YtgljebaiakhbfaaGreat.Aw
open Go.RowKit Go.Maps Go.Sort Go.Shelf Go.Proofs Go.Proofs.YtgljebaiakhbfaaGreatW.PrintWords Go.Proofs.YtgljebaiakhbfaaGreatW.PrintLast Go.Proofs.YtgljebaiakhbfaaGreatW.PrintMore
set_option linter.unusedVariables false
set_option maxRecDepth 100000
set_option maxHeartbeats 4000000
theorem find_calls (s d M : Nat) (p0 p1 p2 p3 p4 p5 room kept waits out armed left : Value) (w : World)
    (hS : Fresh w s d (.slice none 0 0) p0 p1 p2 p3 p4 p5) (hD : DiskAt w d room kept (.map (some M)) waits out armed left) (hM : w.heap[M]? = some (.map #[] 0)) :
    Calls Tryz.prog 57 #[.pointer (some ⟨s, 0, none⟩)] w fun e w' => e = .returned (.tuple #[]) ∧
      (∃ b A n c, Fresh w' s d (.slice (some ⟨b, 0, none⟩) 1 1) p0 p1 p2 p3 p4 p5 ∧ SnapAt w' b 0 0 A n c false 0 none 0 0 ∧ Row 1 3 w' (.slice A n c) [[.int .i64 0]] ∧ w.heap.size ≤ b) ∧ Below 0 w w' ∧ Kept w w' (fun k => k = s) := by
  have hc := fun i => blk_cell hS i
  have hd := fun i => blk_frozen hS i
  have hlt := blk_lt hS
  have hne := Nat.ne_of_lt hlt
  have hst : QTopForms.objs_Start.f 64 0 = some (0, [0], false, 0) := by kernel_rfl
  go_enter Tryz.func57, Tryz.ntmps57
  go_upto_region 1 with (go_at_call 61; refine (QTopForms.objs_Start.calls 64 0 0 [0] false 0 _ hst).mono ?_; rintro e w1 ⟨v1, rfl, ho, hb⟩; obtain ⟨A, c, rfl⟩ := Kd.R_slice ho; have hS1 := blk_below hS hb; have hc1 := (fun i => blk_cell hS1 i); have hd1 := (fun i => blk_frozen hS1 i); have hlt1 := blk_lt hS1; have hne1 := Nat.ne_of_lt hlt1; have HO := Aside0.mk (show Row 1 3 w1 (.slice A 1 c) [[.int .i64 0]] from row_of_int ho); have HB := Aside0.mk hb; clear ho hb)
  have hds : d ≠ s := blk_ne hD hS (by decide)
  have hMs : M ≠ s := fun h => by
    rw [h] at hM
    have := hM.symm.trans hS
    simp at this
  have hG0 : ((w1.setCell ⟨s, 2, none⟩ (.slice (some ⟨w1.heap.size, 0, none⟩) 1 1)).alloc (.cells #[.int .i64 0, .int .i64 0, .slice A 1 c, .bool false, .int .i64 0, .slice none 0 0] 51)).heap[w1.heap.size]? = some (.cells #[.int .i64 0, .int .i64 0, .slice A 1 c, .bool false, .int .i64 0, .slice none 0 0] 51 (0, 0)) := by
    have := blk_new (w1.setCell ⟨s, 2, none⟩ (.slice (some ⟨w1.heap.size, 0, none⟩) 1 1)) (.cells #[.int .i64 0, .int .i64 0, .slice A 1 c, .bool false, .int .i64 0, .slice none 0 0] 51)
    rwa [World.size_setCell] at this
  refine cont (fun wb => Fresh wb s d (.slice (some ⟨w1.heap.size, 0, none⟩) 1 1) p0 p1 p2 p3 p4 p5 ∧ SnapAt wb w1.heap.size 0 0 A 1 c false 0 none 0 0 ∧ Row 1 3 wb (.slice A 1 c) [[.int .i64 0]] ∧ DiskAt wb d room kept (.map (some M)) waits out armed left ∧ wb.heap[M]? = some (.map #[] 0) ∧ Below 0 w wb ∧ Kept w wb (fun k => k = s))
    ⟨by (apply blk_is; (focus (repeat (first | (with_reducible exact hS1) | (with_reducible apply blk_alloc) | (with_reducible apply blk_drew) | (with_reducible apply blk_drewN) | (with_reducible apply blk_set) | ((with_reducible apply blk_far2); (focus (first | omega | (simp; done) | (simp; omega))))))); (focus rfl)), hG0, by (repeat (first | (with_reducible exact HO.out) | (with_reducible apply Row.alloc) | (with_reducible apply Row.drew) | (with_reducible apply Row.drewN) | ((with_reducible apply Row.set2); (focus (repeat (first | (with_reducible exact hS1) | (with_reducible apply blk_alloc) | (with_reducible apply blk_drew) | (with_reducible apply blk_drewN) | (with_reducible apply blk_set) | ((with_reducible apply blk_far2); (focus (first | omega | (simp; done) | (simp; omega))))))); (focus decide)))), by (apply blk_is; (focus (repeat (first | (with_reducible exact (blk_below hD HB.out)) | (with_reducible apply blk_alloc) | (with_reducible apply blk_drew) | (with_reducible apply blk_drewN) | (with_reducible apply blk_set) | ((with_reducible apply blk_far2); (focus (first | omega | (simp; done) | (simp; omega))))))); (focus rfl)), blk_alloc ((Below.heap_setCell w1 _ _ M hMs).trans (blk_below hM HB.out)) _, (((below_zero HB.out).setCell (Nat.zero_le _) _).alloc (Nat.zero_le _) _), (((Kept.of_below HB.out (fun k => k = s)).setCell (.inl rfl) _).alloc _)⟩ ?_
  rintro wb ⟨hSb, hGb, hRb, hDb, hMb, hZb, hKb⟩
  have hgb : w.heap.size ≤ w1.heap.size := HB.out.size
  have hltb := blk_lt hSb
  have hneb := Nat.ne_of_lt hltb
  have hsg : s ≠ w1.heap.size := hne1
  have hcb := fun i => blk_cell hSb i
  have hdb := fun i => blk_frozen hSb i
  have HF := Aside0.mk (And.intro hRb (And.intro hDb (And.intro hMb (And.intro hZb hKb))))
  have HG := Aside0.mk hGb
  clear hG0 hds hMs hc hd hc1 hd1 hS1 hlt1 hne1 HO HB hRb hDb hMb hZb hKb hGb hS hD hM hst hlt hne
  have HN := Aside0.mk (fun (k : Int) W (h : Below wb.heap.size wb W) => names_calls d M k room kept waits out armed left W (blk_below HF.out.2.1 h) (blk_below HF.out.2.2.1 h))
  have HBs := Aside0.mk (fun W (h : Below wb.heap.size wb W) => base_calls s w1.heap.size _ _ _ _ _ _ _ _ _ _ _ _ _ _ 0 0 A 1 c false 0 none 0 0 _ [] W (blk_below hSb h) (blk_below HG.out h) (HF.out.1.below h) (Row.nil _ _ _) (by decide) (by decide) (fun _ => rfl))
  have hfl := fun A1 n1 c1 B1 m1 d1 => field0 0 0 A1 n1 c1 false 0 B1 m1 d1
  dsimp only [snapV] at hfl
  go_wp2_with (go_at_call 94; refine (HN.out 3 _ (Below.refl _ _)).mono ?_; rintro e w2 ⟨rfl, hb⟩; have hS2 := blk_below hSb hb; have hc2 := (fun i => blk_cell hS2 i); have hd2 := (fun i => blk_frozen hS2 i); have HB2 := Aside0.mk hb; clear hb)
  refine wp_loop_rounds 1 ?_
  rw [rounds_succ]
  clear hcb hdb
  go_wp2_with (first
    | (go_at_call 59; refine (HBs.out _ HB2.out).mono ?_; rintro e w3 ⟨⟨v, rfl, ⟨A1, n1, c1, B1, m1, d1, rfl, ho1, ho2, hz, hf⟩⟩, hb⟩; clear hf; obtain ⟨HB3⟩ : Aside0 (Below wb.heap.size wb w3) := ⟨below_step HB2.out hb⟩; have hS3 := blk_below hSb HB3; have hc3 := (fun i => blk_cell hS3 i); have hd3 := (fun i => blk_frozen hS3 i); have HB3' := Aside0.mk HB3; clear hb ho1 ho2 hz HB3 hc2 hd2 hS2; dsimp only [snapV])
    | (go_at_call 94; refine (names_calls d M 2 room kept waits out armed left _ (blk_far (blk_below HF.out.2.1 HB3'.out) (blk_ne HF.out.2.1 hSb (by decide)) _) ((Below.heap_setCell w3 _ _ M (by intro h; subst h; have := HF.out.2.2.1.symm.trans hSb; simp at this)).trans (blk_below HF.out.2.2.1 HB3'.out))).mono ?_; rintro e w4 ⟨rfl, hb⟩; have hS4 := blk_below (blk_set hS3 5 _) hb; have HB4 := Aside0.mk hb; clear hb))
  refine wp_loop_rounds 1 ?_
  rw [rounds_succ]
  go_wp2
  go_end0
  refine ⟨rfl, ⟨w1.heap.size, A, 1, c, blk_is hS4 rfl, blk_below (blk_far (blk_below HG.out HB3'.out) (Ne.symm hsg) _) HB4.out, ?_, hgb⟩, ?_, ?_⟩
  · exact Row.below (Row.set2 hS3 (by decide) (HF.out.1.below HB3'.out)) HB4.out
  · exact ((HF.out.2.2.2.1.trans (below_zero HB3'.out)).setCell (Nat.zero_le _) _).trans (below_zero HB4.out)
  · exact ((HF.out.2.2.2.2.below HB3'.out).setCell (.inl rfl) _).below HB4.out
end Go.Proofs.YtgljebaiakhbfaaGreat.Aw
