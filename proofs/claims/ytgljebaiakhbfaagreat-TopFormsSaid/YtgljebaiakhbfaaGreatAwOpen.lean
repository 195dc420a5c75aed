/- What this text proves: what opening a store on an empty disk does; condition: the blocks. -/
import Derived.Test.YtgljebaiakhbfaaGreatAwFind
namespace Go.Proofs.YtgljebaiakhbfaaGreat.Aw
open Go.RowKit Go.Maps Go.Sort Go.Shelf Go.Proofs Go.Proofs.YtgljebaiakhbfaaGreatW.PrintWords Go.Proofs.YtgljebaiakhbfaaGreatW.PrintLast Go.Proofs.YtgljebaiakhbfaaGreatW.PrintMore
set_option linter.unusedVariables false
set_option maxRecDepth 100000
set_option maxHeartbeats 4000000
theorem open_calls (d M : Nat) (room kept waits armed left : Value) (w : World)
    (hD : DiskAt w d room kept (.map (some M)) waits (.bool false) armed left) (hM : w.heap[M]? = some (.map #[] 0)) :
    Calls Tryz.prog 29 #[.pointer (some ⟨d, 0, none⟩), .int .i64 0] w fun e w' => ∃ s bases A n c, e = .returned (.tuple #[.pointer (some ⟨s, 0, none⟩), .int .i64 0]) ∧
      Fresh w' s d bases (.int .i64 0) (.int .i64 0) (.slice A n c) (.bool false) (.int .i64 0) (.slice none 0 0) ∧ Row 1 3 w' (.slice A n c) [[.int .i64 0]] ∧ w.heap.size ≤ s ∧ (∀ k, (Value.slice A n c).ownBlock = some k → w.heap.size ≤ k) ∧ Below w.heap.size w w' := by
  have HD := Aside0.mk hD
  have HM := Aside0.mk hM
  clear hD hM
  go_enter Tryz.func29, Tryz.ntmps29
  go_upto_region 6 with (go_at_call 56; refine (on_calls d _ _ _ _ _ _ _ _ HD.out).mono ?_; rintro e w1 ⟨rfl, hb⟩; have HB1 := Aside0.mk hb; clear hb; dsimp only [Bool.not_false])
  have hw1 := HB1.out.size
  refine cont (fun wb => Fresh wb w1.heap.size d (.slice none 0 0) (.int .i64 0) (.int .i64 0) (.slice none 0 0) (.bool false) (.int .i64 0) (.slice none 0 0) ∧ DiskAt wb d room kept (.map (some M)) waits (.bool false) armed left ∧ wb.heap[M]? = some (.map #[] 0) ∧ Below w.heap.size w wb) ⟨blk_new w1 _, blk_alloc (blk_below HD.out HB1.out) _, blk_alloc (blk_below HM.out HB1.out) _, below_alloc HB1.out _⟩ ?_
  rintro wb ⟨hSb, hDb, hMb, hBb⟩
  have HDb := Aside0.mk hDb
  have HMb := Aside0.mk hMb
  have HBb := Aside0.mk hBb
  clear hDb hMb hBb HD HM HB1
  go_wp2_with (first
    | (go_at_call 57; refine (find_calls w1.heap.size d M _ _ _ _ _ _ _ _ _ _ _ _ _ hSb HDb.out HMb.out).mono ?_; rintro e w2 ⟨rfl, ⟨b, A, n, c, hS2, hG2, hR2, hb2⟩, hz, hk⟩; have HF2 := Aside0.mk (And.intro hS2 (And.intro hG2 hR2)); have HB2 := Aside0.mk (below_kept HBb.out hk hz (by rintro k rfl; exact hw1)); clear hS2 hG2 hR2 hz hk)
    | (go_at_call 58; refine (follow_calls w1.heap.size d b _ _ _ _ _ _ A n c _ HF2.out.1 HF2.out.2.1 HF2.out.2.2).mono ?_; rintro e w3 ⟨rfl, ⟨A3, n3, c3, hS3, hR3, hf⟩, hz, hk⟩; have HFr := Aside0.mk (fun k hk => Nat.le_trans HB2.out.size (hf k hk)); clear hf; have hlt3 := blk_lt hS3; have hne3 := Nat.ne_of_lt hlt3; have hc3 := (fun i => blk_cell hS3 i); have hd3 := (fun i => blk_frozen hS3 i); have HR3 := Aside0.mk hR3; have HB3 := Aside0.mk (below_kept HB2.out hk hz (by rintro k rfl; exact hw1)); clear hR3 hz hk)
    | (go_at_call 60; refine (next_calls w1.heap.size 0 0 none 0 _ _ _ _ _ _ _ _ _ _ _ _ _ _ hS3).mono ?_; rintro e w4 ⟨rfl, hb⟩; have hS4 := blk_below hS3 hb; have hc4 := (fun i => blk_cell hS4 i); have hd4 := (fun i => blk_frozen hS4 i); have HB4 := Aside0.mk hb; clear hb hc3 hd3; rw [show wrap64 (0 + ((0 : Nat) : Int)) = 0 from by rw [← i64_w]; decide]))
  go_ret2
  exact ⟨w1.heap.size, _, A3, n3, c3, rfl, by (apply blk_is; (focus (repeat (first | (with_reducible exact hS4) | (with_reducible apply blk_alloc) | (with_reducible apply blk_drew) | (with_reducible apply blk_drewN) | (with_reducible apply blk_set) | ((with_reducible apply blk_far2); (focus (first | omega | (simp; done) | (simp; omega))))))); (focus rfl)), Row.set2 hS4 (by decide) (HR3.out.below HB4.out), hw1, HFr.out, below_set (below_step HB3.out HB4.out) hw1⟩
end Go.Proofs.YtgljebaiakhbfaaGreat.Aw
