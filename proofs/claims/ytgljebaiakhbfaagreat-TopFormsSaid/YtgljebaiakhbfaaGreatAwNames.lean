/- What this text proves: the names of a disk that has no files, and the next fresh one; condition: the blocks. -/
import Derived.Test.YtgljebaiakhbfaaGreatAwBase
import Derived.Test.YtgljebaiakhbfaaGreatQTopFormsyA2
namespace Go.Proofs.YtgljebaiakhbfaaGreat.Aw
open Go.RowKit Go.Maps Go.Sort Go.Shelf Go.Proofs Go.Proofs.YtgljebaiakhbfaaGreatW.PrintWords Go.Proofs.YtgljebaiakhbfaaGreatW.PrintLast Go.Proofs.YtgljebaiakhbfaaGreatW.PrintMore
set_option linter.unusedVariables false
set_option maxRecDepth 100000
set_option maxHeartbeats 2000000
/-- A disk's block. -/
abbrev DiskAt (w : World) (d : Nat) (room kept now waits out armed left : Value) : Prop :=
  w.heap[d]? = some (.cells #[room, kept, now, waits, out, armed, left] 108 (0, 0))
theorem disk_names (d M : Nat) (room kept waits out armed left : Value) (w : World) (hD : DiskAt w d room kept (.map (some M)) waits out armed left) (hM : w.heap[M]? = some (.map #[] 0)) :
    Calls Tryz.prog 117 #[.pointer (some ⟨d, 0, none⟩)] w fun e w' => e = .returned (.slice none 0 0) ∧ Below w.heap.size w w' := by
  have hc := fun i => blk_cell hD i
  have hd := fun i => blk_frozen hD i
  have HM := Aside0.mk hM
  clear hM
  go_enter Tryz.func117, Tryz.ntmps117
  go_wp2_with (first
    | (go_at_call 151; refine (keys_calls (some M) _).mono ?_; rintro e w1 ⟨rfl, rfl⟩)
    | (go_at_call 150; refine (sorted0 w.heap.size M _ (by simp) (by rw [blk_cell (blk_new w _) 0]; rfl) (blk_alloc HM.out _)).mono ?_; rintro e w2 ⟨rfl, hb⟩; have HB := Aside0.mk (below_step (by (repeat (first | (with_reducible exact Below.refl _ _) | (with_reducible apply below_alloc) | (with_reducible apply below_drew1) | (with_reducible apply pw_below_drewN)))) hb : Below w.heap.size w w2); clear hb))
  go_ret
  exact ⟨rfl, HB.out⟩
theorem names_calls (d M : Nat) (least : Int) (room kept waits out armed left : Value) (w : World) (hD : DiskAt w d room kept (.map (some M)) waits out armed left) (hM : w.heap[M]? = some (.map #[] 0)) :
    Calls Tryz.prog 94 #[.pointer (some ⟨d, 0, none⟩), .int .i64 least] w fun e w' => e = .returned (.slice none 0 0) ∧ Below w.heap.size w w' := by
  have HD := Aside0.mk hD
  have HM := Aside0.mk hM
  clear hM hD
  go_enter Tryz.func94, Tryz.ntmps94
  go_wp2_with (first
    | (go_at_call 117; refine (disk_names d M room kept waits out armed left _ (by (repeat (first | (with_reducible exact HD.out) | (with_reducible apply blk_alloc) | (with_reducible apply blk_drew) | (with_reducible apply blk_drewN) | (with_reducible apply blk_set) | ((with_reducible apply blk_far2); (focus (first | omega | (simp; done) | (simp; omega))))))) (by (repeat (first | (with_reducible exact HM.out) | (with_reducible apply blk_alloc) | (with_reducible apply blk_drew) | (with_reducible apply blk_drewN) | (with_reducible apply blk_set) | ((with_reducible apply blk_far2); (focus (first | omega | (simp; done) | (simp; omega)))))))).mono ?_; rintro e w1 ⟨rfl, hb⟩; have HB := Aside0.mk (below_step (by (repeat (first | (with_reducible exact Below.refl _ _) | (with_reducible apply below_alloc) | (with_reducible apply below_drew1) | (with_reducible apply pw_below_drewN)))) hb : Below w.heap.size w w1); clear hb)
    | (go_at_call 136; refine (delete0 _ _).mono ?_; rintro e w2 ⟨rfl, rfl⟩))
  go_ret
  exact ⟨rfl, HB.out⟩
theorem fresh_calls (s d M : Nat) (least : Int) (kind bases pieces log first synced n0 n1 n2 n3 n4 n5 cur named room kept waits out armed left : Value) (w : World)
    (hS : StoreAt w s (.pointer (some ⟨d, 0, none⟩)) kind bases pieces log first synced n0 n1 n2 n3 n4 n5 cur named)
    (hD : DiskAt w d room kept (.map (some M)) waits out armed left) (hM : w.heap[M]? = some (.map #[] 0)) :
    Calls Tryz.prog 75 #[.pointer (some ⟨s, 0, none⟩), .int .i64 least] w fun e w' => e = .returned (.int .i64 least) ∧ Below w.heap.size w w' := by
  have hc := fun i => blk_cell hS i
  have hd := fun i => blk_frozen hS i
  have HD := Aside0.mk hD
  have HM := Aside0.mk hM
  clear hM hD
  go_enter Tryz.func75, Tryz.ntmps75
  go_wp2_with (first
    | (go_at_call 94; refine (names_calls d M least room kept waits out armed left _ (by (repeat (first | (with_reducible exact HD.out) | (with_reducible apply blk_alloc) | (with_reducible apply blk_drew) | (with_reducible apply blk_drewN) | (with_reducible apply blk_set) | ((with_reducible apply blk_far2); (focus (first | omega | (simp; done) | (simp; omega))))))) (by (repeat (first | (with_reducible exact HM.out) | (with_reducible apply blk_alloc) | (with_reducible apply blk_drew) | (with_reducible apply blk_drewN) | (with_reducible apply blk_set) | ((with_reducible apply blk_far2); (focus (first | omega | (simp; done) | (simp; omega)))))))).mono ?_; rintro e w1 ⟨rfl, hb⟩; have HB := Aside0.mk (below_step (by (repeat (first | (with_reducible exact Below.refl _ _) | (with_reducible apply below_alloc) | (with_reducible apply below_drew1) | (with_reducible apply pw_below_drewN)))) hb : Below w.heap.size w w1); clear hb)
    | (go_at_call 114; refine (QTopForms.store_last_int.calls none 0 [] 0 false _ (Kd.C_nil _ _) (Nat.le_refl _) rfl).mono ?_; rintro e w2 ⟨rfl, hb⟩; have HB2 := Aside0.mk (below_step HB.out hb.below : Below w.heap.size w w2); clear hb))
  go_ret
  exact ⟨rfl, HB2.out⟩
end Go.Proofs.YtgljebaiakhbfaaGreat.Aw
