/- What this text proves: what a disk's functions do at an empty disk; condition: the blocks. -/
import Derived.Test.YtgljebaiakhbfaaGreatAwNames
namespace Go.Proofs.YtgljebaiakhbfaaGreat.Aw
open Go.RowKit Go.Maps Go.Sort Go.Shelf Go.Proofs Go.Proofs.YtgljebaiakhbfaaGreatW.PrintWords Go.Proofs.YtgljebaiakhbfaaGreatW.PrintLast Go.Proofs.YtgljebaiakhbfaaGreatW.PrintMore
open Go.ChangeMaps (setBlock heap_setBlock_same heap_setBlock_other)
set_option linter.unusedVariables false
set_option maxRecDepth 100000
set_option maxHeartbeats 2000000
theorem did_calls (d : Nat) (room kept now waits out left : Value) (w : World) (hD : DiskAt w d room kept now waits out (.bool false) left) :
    Calls Tryz.prog 101 #[.pointer (some ⟨d, 0, none⟩)] w fun e w' => e = .returned (.int .i64 0) ∧ Below w.heap.size w w' := by
  have hc := fun i => blk_cell hD i
  have hd := fun i => blk_frozen hD i
  go_enter Tryz.func101, Tryz.ntmps101
  go_wp2
  go_ret
  exact ⟨rfl, Below.refl _ _⟩
/-- A map of one entry. -/
abbrev oneMap (v : Value) : Obj := .map #[{ key := .int .i64 2, val := v, born := 0 }] 1
theorem key2 : keyOf Tryz.prog 3 (.int .i64 2) = some (.int .i64 2) := Maps.keyOf_int_mk Tryz.underlying3 (by decide)
theorem look_empty {w : World} {M : Nat} (hM : w.heap[M]? = some (.map #[] 0)) : (Instr.lookup 105 (.map (some M)) (.int .i64 2) false).run Tryz.prog w = .ok (.pointer none) w := by
  have K := int_keyed Tryz.underlying3
  have hz : (zeroValue 153).run Tryz.prog w = .ok (.pointer none) w := by go_simp
  rcases K.find w key2 [] (by simp) with ⟨f1, _⟩ | ⟨j, e0, _, f2, _⟩
  · simp [Instr.lookup, run_underlying Tryz.underlying105, MapKept.run_getObj_map hM, K.check w _ key2, f1, Result.andThen, hz]
  · simp at f2
theorem put_empty {w : World} {M : Nat} (hM : w.heap[M]? = some (.map #[] 0)) (v : Value) : (Instr.mapUpdate 105 (.map (some M)) (.int .i64 2) v).run Tryz.prog w = .ok () (setBlock w M (oneMap v)) := by
  have K := int_keyed Tryz.underlying3
  rcases K.find w key2 [] (by simp) with ⟨f1, _⟩ | ⟨j, e0, _, f2, _⟩
  · simp [Instr.mapUpdate, run_underlying Tryz.underlying105, MapKept.run_getObj_map hM, K.check w _ key2, f1, MapKept.run_setObj_map _ hM, Result.andThen, setBlock]
  · simp at f2
theorem look_one {w : World} {M : Nat} {v : Value} (hM : w.heap[M]? = some (oneMap v)) : (Instr.lookup 105 (.map (some M)) (.int .i64 2) false).run Tryz.prog w = .ok v w := by
  have K := int_keyed Tryz.underlying3
  rcases K.find w key2 [{ key := .int .i64 2, val := v, born := 0 }] (by simp [key2]) with ⟨_, f2⟩ | ⟨j, e0, f1, f2, _⟩
  · exact absurd rfl (f2 _ (by simp; rfl))
  · have : e0 = { key := .int .i64 2, val := v, born := 0 } := by
      have := List.mem_of_getElem? f2
      simpa using this
    subst this
    simp [Instr.lookup, run_underlying Tryz.underlying105, MapKept.run_getObj_map hM, K.check w _ key2, f1, Result.andThen]
theorem put_calls (M F N f : Nat) (w : World) (hM : w.heap[M]? = some (.map #[] 0)) (hF : w.heap[F]? = some (.cells #[.pointer (some ⟨f, 0, none⟩)] 153 (0, 0))) (hN : w.heap[N]? = some (.cells #[.int .i64 2] 3 (0, 0))) :
    Calls Tryz.prog 112 #[.map (some M), .pointer (some ⟨F, 0, none⟩), .pointer (some ⟨N, 0, none⟩)] w fun e w' => e = .returned (.tuple #[]) ∧ w'.heap[M]? = some (oneMap (.pointer (some ⟨f, 0, none⟩))) ∧ w.grownBy w' (some M) := by
  have hc := fun i => blk_cell hF i
  have hd := fun i => blk_frozen hF i
  have hc1 := fun i => blk_cell hN i
  have hd1 := fun i => blk_frozen hN i
  have hp := put_empty hM (.pointer (some ⟨f, 0, none⟩))
  go_enter Tryz.func112, Tryz.ntmps112
  go_wp2
  go_end0
  exact ⟨rfl, heap_setBlock_same hM _, ⟨rfl, rfl, rfl, by simp [setBlock], fun i _ hi => heap_setBlock_other hM _ (fun e => hi (by rw [e]))⟩⟩
theorem used_calls (d M : Nat) (room kept waits out armed left : Value) (w : World) (hD : DiskAt w d room kept (.map (some M)) waits out armed left) (hM : w.heap[M]? = some (.map #[] 0)) :
    Calls Tryz.prog 111 #[.pointer (some ⟨d, 0, none⟩)] w fun e w' => e = .returned (.int .i64 0) ∧ Below w.heap.size w w' := by
  have hc := fun i => blk_cell hD i
  have hd := fun i => blk_frozen hD i
  have hown : w.ownsMap Tryz.prog 3 (fun _ => none) M 0 (.map [] : DataW Unit) := empty_map hM
  go_enter Tryz.func111, Tryz.ntmps111
  go_wp2_with (at_range; refine wpList_range_own _ rfl _ 105 rfl 3 153 (int_keyed Tryz.underlying3) Tryz.underlying105 _ M 0 _ rfl hown ?_; intro w0 hrg0 hg0 hs0)
  refine wp_loop_rounds 1 ?_
  rw [rounds_succ]
  go_wp2_with (at_next; refine wpList_next_ranges _ rfl _ rfl 3 (int_keyed Tryz.underlying3) (fun _ => none) encZ id (fun key kl hk => by obtain ⟨x, hx, _⟩ := Maps.keyOf_i64 Tryz.underlying3 hk; exact ⟨x, hx⟩) (fun v _ _ => ⟨v, rfl⟩) M w.heap.size 0 _ _ _ rfl hrg0 ?_ ?_)
  · intro _ _
    have HB := Aside0.mk (Below.refl w.heap.size w |>.grown hg0 (Nat.le_refl _) (fun k e => by cases e))
    clear hrg0 hg0 hs0 hown hM hD hc hd
    go_wp2
    go_ret
    exact ⟨rfl, HB.out⟩
theorem infoF : (Tryz.prog.info? 166).map (fun i => (i.zero, i.size, i.bytes)) = some (some Value.nilFunc, 1, 8) := by kernel_rfl
/-- change(put): the file's name is there. -/
theorem change_calls (d M F N f : Nat) (room kept out armed left : Value) (w : World) (hD : DiskAt w d room kept (.map (some M)) (.slice none 0 0) out armed left) (hM : w.heap[M]? = some (.map #[] 0))
    (hF : w.heap[F]? = some (.cells #[.pointer (some ⟨f, 0, none⟩)] 153 (0, 0))) (hN : w.heap[N]? = some (.cells #[.int .i64 2] 3 (0, 0))) :
    Calls Tryz.prog 108 #[.pointer (some ⟨d, 0, none⟩), .func (.func 112) #[] #[.pointer (some ⟨F, 0, none⟩), .pointer (some ⟨N, 0, none⟩)]] w fun e w' =>
      e = .returned (.tuple #[]) ∧ (∃ A n c, DiskAt w' d room kept (.map (some M)) (.slice A n c) out armed left) ∧ w'.heap[M]? = some (oneMap (.pointer (some ⟨f, 0, none⟩))) ∧ Below 0 w w' ∧ Kept w w' (fun k => k = d ∨ k = M) := by
  have hc := fun i => blk_cell hD i
  have hd := fun i => blk_frozen hD i
  go_enter Tryz.func108, Tryz.ntmps108
  have hdm : d ≠ M := fun h => by
    rw [h] at hD
    have := hD.symm.trans hM
    simp at this
  go_wp2_with (first
    | (go_at_call 112; refine (put_calls M F N f _ hM hF hN).mono ?_; rintro e w1 ⟨rfl, hM1, hg1⟩; have hD1 := blk_grown hD hg1 (by simp [hdm]); have hc1 := (fun i => blk_cell hD1 i); have hd1 := (fun i => blk_frozen hD1 i); have HM1 := Aside0.mk hM1; have HG1 := Aside0.mk hg1; clear hM1 hg1)
    | ((with_reducible refine gate_builtin (b := .append) (xs := #[.tmp 14, .tmp 16]) rfl ?_); at_builtin; refine nil_append (sz := 1) (e := 166) rfl (.tmp 14) (.tmp 16) 106 Value.nilFunc 8 rfl Tryz.underlying106 infoF rfl (by decide) (by decide) [.func (.func 112) #[] #[.pointer (some ⟨F, 0, none⟩), .pointer (some ⟨N, 0, none⟩)]] rfl (by intro u hu; simp only [List.mem_singleton] at hu; rw [hu]; rfl) rfl rfl (by decide) ?_; intro A2 c2 w2 ho hb; have hD2 := blk_below hD1 hb; have hc2 := (fun i => blk_cell hD2 i); have hd2 := (fun i => blk_frozen hD2 i); have HB2 := Aside0.mk hb; clear ho hb))
  go_end0
  refine ⟨rfl, ⟨A2, 1, c2, by (apply blk_is; (focus (repeat (first | (with_reducible exact hD2) | (with_reducible apply blk_alloc) | (with_reducible apply blk_drew) | (with_reducible apply blk_drewN) | (with_reducible apply blk_set) | ((with_reducible apply blk_far2); (focus (first | omega | (simp; done) | (simp; omega))))))); (focus rfl))⟩, (Below.heap_setCell w2 _ _ M (Ne.symm hdm)).trans (blk_below HM1.out HB2.out), ?_, ?_⟩
  · exact (((Below.refl 0 w).grown HG1.out (Nat.zero_le _) (fun k e => Nat.zero_le _)).trans (below_zero HB2.out)).setCell (Nat.zero_le _) _
  · exact ((Kept.of_grown HG1.out (Kept.refl w _) (fun k e => .inl (.inr (by simpa using e.symm)))).below HB2.out).setCell (.inl (.inl rfl)) _
end Go.Proofs.YtgljebaiakhbfaaGreat.Aw
