/- What this text proves: what world.New does for one counter with one follower; no condition. -/
import Derived.Test.YtgljebaiakhbfaaGreatAwOpen
namespace Go.Proofs.YtgljebaiakhbfaaGreat.Aw
open Go.RowKit Go.Maps Go.Sort Go.Shelf Go.Proofs Go.Proofs.YtgljebaiakhbfaaGreatW.PrintWords Go.Proofs.YtgljebaiakhbfaaGreatW.PrintLast Go.Proofs.YtgljebaiakhbfaaGreatW.PrintMore
set_option linter.unusedVariables false
set_option maxRecDepth 100000
set_option maxHeartbeats 4000000
theorem filesNew_calls (w : World) :
    Calls Tryz.prog 27 #[.int .i64 10000] w fun e w' => ∃ d K M, e = .returned (.pointer (some ⟨d, 0, none⟩)) ∧
      DiskAt w' d (.int .i64 10000) (.map (some K)) (.map (some M)) (.slice none 0 0) (.bool false) (.bool false) (.int .i64 0) ∧ w'.heap[M]? = some (.map #[] 0) ∧ w.heap.size ≤ d ∧ w.heap.size ≤ M ∧ Below w.heap.size w w' := by
  have hmm := @run_makeMap Tryz.prog
  go_enter Tryz.func27, Tryz.ntmps27
  go_wp2
  go_ret
  exact ⟨_, _, _, rfl, new3 _ _ _ _, blk_alloc (new2 _ _ _) _, by omega, by omega, by (repeat (first | (with_reducible exact Below.refl _ _) | (with_reducible apply below_alloc) | (with_reducible apply below_drew1) | (with_reducible apply pw_below_drewN)))⟩
theorem netNew_calls (w : World) :
    Calls Tryz.prog 28 #[] w fun e w' => ∃ g, e = .returned (.pointer (some ⟨g, 0, none⟩)) ∧ Below w.heap.size w w' := by
  go_enter Tryz.func28, Tryz.ntmps28
  go_wp2
  go_ret
  exact ⟨_, rfl, by (repeat (first | (with_reducible exact Below.refl _ _) | (with_reducible apply below_alloc) | (with_reducible apply below_drew1) | (with_reducible apply pw_below_drewN)))⟩
theorem shipFollow_calls (w : World) :
    Calls Tryz.prog 30 #[.int .i64 1, .int .i64 0] w fun e w' => ∃ g, e = .returned (.tuple #[.pointer (some ⟨g, 0, none⟩), .int .i64 0]) ∧ Below w.heap.size w w' := by
  have hst : QTopForms.objs_Start.f 64 0 = some (0, [0], false, 0) := by kernel_rfl
  go_enter Tryz.func30, Tryz.ntmps30
  go_wp2_with (go_at_call 61; refine (QTopForms.objs_Start.calls 64 0 0 [0] false 0 _ hst).mono ?_; rintro e w1 ⟨v1, rfl, ho, hb⟩; obtain ⟨A, c, rfl⟩ := Kd.R_slice ho; have HB := Aside0.mk hb; clear ho hb)
  go_ret2
  exact ⟨_, rfl, below_alloc HB.out _⟩
/-- A world's block. -/
abbrev WorldAt (w : World) (g : Nat) (kind disk store net followers knows : Value) : Prop :=
  w.heap[g]? = some (.cells #[kind, disk, store, net, followers, knows] 75 (0, 0))
theorem infoP : (Tryz.prog.info? 78).map (fun i => (i.zero, i.size, i.bytes)) = some (some (.pointer none), 1, 8) := by kernel_rfl
theorem make1 (W : World) : (Instr.makeSlice 34 (.int .i64 1) (.int .i64 1)).run Tryz.prog W = .ok (.slice (some ⟨W.heap.size, 0, none⟩) 1 1) (W.alloc (.cells #[.int .i64 0] 3)) := by
  have h := infoI
  cases hi : Tryz.prog.info? 3 with
  | none => rw [hi] at h; simp at h
  | some i =>
    rw [hi] at h
    simp only [Option.map_some, Option.some.injEq, Prod.mk.injEq] at h
    obtain ⟨h1, h2, h3⟩ := h
    rw [run_makeSlice W 34 3 i (.int .i64 0) Tryz.underlying34 hi h1 .i64 .i64 1 1 (by decide) (by decide) (by rw [h2]; decide) (by rw [h3]; decide) (by decide), h2]
    have h1 : Array.range 1 = #[0] := by decide
    simp [madeCells, Value.cells, h1]
theorem new_calls (w : World) :
    Calls Tryz.prog 12 #[.int .i64 0, .int .i64 1, .int .i64 10000] w fun e w' => ∃ g s d K M bases A n c net followers knows, e = .returned (.tuple #[.pointer (some ⟨g, 0, none⟩), .int .i64 0]) ∧
      WorldAt w' g (.int .i64 0) (.pointer (some ⟨d, 0, none⟩)) (.pointer (some ⟨s, 0, none⟩)) net followers knows ∧
      Fresh w' s d bases (.int .i64 0) (.int .i64 0) (.slice A n c) (.bool false) (.int .i64 0) (.slice none 0 0) ∧ Row 1 3 w' (.slice A n c) [[.int .i64 0]] ∧
      DiskAt w' d (.int .i64 10000) (.map (some K)) (.map (some M)) (.slice none 0 0) (.bool false) (.bool false) (.int .i64 0) ∧ w'.heap[M]? = some (.map #[] 0) ∧ (w.heap.size ≤ g ∧ w.heap.size ≤ s ∧ w.heap.size ≤ d ∧ w.heap.size ≤ M ∧ ∀ k, (Value.slice A n c).ownBlock = some k → w.heap.size ≤ k) ∧ Below w.heap.size w w' := by
  have hms := make1
  go_enter Tryz.func12, Tryz.ntmps12
  go_upto_region 3 with fail
  go_cut [8] (fun v8 w5 => ∃ g d K M net knows, v8 = .pointer (some ⟨g, 0, none⟩) ∧ WorldAt w5 g (.int .i64 0) (.pointer (some ⟨d, 0, none⟩)) (.pointer none) net (.slice none 0 0) knows ∧
      DiskAt w5 d (.int .i64 10000) (.map (some K)) (.map (some M)) (.slice none 0 0) (.bool false) (.bool false) (.int .i64 0) ∧ w5.heap[M]? = some (.map #[] 0) ∧ (w.heap.size ≤ g ∧ w.heap.size ≤ d ∧ w.heap.size ≤ M) ∧ Below w.heap.size w w5)
  case first =>
    go_region_with (first
      | (go_at_call 27; refine (filesNew_calls _).mono ?_; rintro e w1 ⟨d, K, M, rfl, hD, hM, hsd, hsM, hb⟩)
      | (go_at_call 28; refine (netNew_calls _).mono ?_; rintro e w2 ⟨N, rfl, hb2⟩))
    all_goals (go_wp2_with fail)
    all_goals go_meet
    all_goals (case rel =>
      first | refine ⟨_, d, K, M, _, _, rfl, new2 _ _ _, ?_, ?_, ?_, ?_⟩ | refine ⟨_, d, K, M, _, _, rfl, blk_new _ _, ?_, ?_, ?_, ?_⟩
      · first | (with_reducible exact blk_alloc (blk_alloc (blk_below hD hb2) _) _) | (with_reducible exact blk_alloc (blk_below (blk_alloc hD _) hb2) _) | (with_reducible exact blk_alloc (blk_below hD hb2) _)
      · first | (with_reducible exact blk_alloc (blk_alloc (blk_below hM hb2) _) _) | (with_reducible exact blk_alloc (blk_below (blk_alloc hM _) hb2) _) | (with_reducible exact blk_alloc (blk_below hM hb2) _)
      · have z1 : w.heap.size ≤ w2.heap.size := Nat.le_trans (below_step (by (repeat (first | (with_reducible exact Below.refl _ _) | (with_reducible apply below_alloc) | (with_reducible apply below_drew1) | (with_reducible apply pw_below_drewN)))) hb : Below w.heap.size w w1).size (below_step (by (repeat (first | (with_reducible exact Below.refl _ _) | (with_reducible apply below_alloc) | (with_reducible apply below_drew1) | (with_reducible apply pw_below_drewN)))) hb2 : Below w1.heap.size w1 w2).size
        have z2 : w.heap.size ≤ d := Nat.le_trans (by (repeat (first | (with_reducible exact Below.refl _ _) | (with_reducible apply below_alloc) | (with_reducible apply below_drew1) | (with_reducible apply pw_below_drewN))) : Below w.heap.size w _).size hsd
        have z3 : w.heap.size ≤ M := Nat.le_trans (by (repeat (first | (with_reducible exact Below.refl _ _) | (with_reducible apply below_alloc) | (with_reducible apply below_drew1) | (with_reducible apply pw_below_drewN))) : Below w.heap.size w _).size hsM
        exact ⟨by omega, z2, z3⟩
      · have hb0 : Below w.heap.size w w1 := below_step (by (repeat (first | (with_reducible exact Below.refl _ _) | (with_reducible apply below_alloc) | (with_reducible apply below_drew1) | (with_reducible apply pw_below_drewN)))) hb
        have hb3 : Below w1.heap.size w1 w2 := below_step (by (repeat (first | (with_reducible exact Below.refl _ _) | (with_reducible apply below_alloc) | (with_reducible apply below_drew1) | (with_reducible apply pw_below_drewN)))) hb2
        have hb4 := below_step hb0 hb3
        repeat (first | (with_reducible exact hb4) | (with_reducible apply below_alloc)))
  case rest =>
    obtain ⟨g, d, K, M, net, knows, rfl, hG, hD, hM, hsz, hB⟩ := hcut
    have HD := Aside0.mk hD
    have HM := Aside0.mk hM
    have HB := Aside0.mk hB
    have HZ := Aside0.mk hsz
    have hlt := blk_lt hG
    have hne := Nat.ne_of_lt hlt
    have hc := fun i => blk_cell hG i
    have hd := fun i => blk_frozen hG i
    clear hD hM hB hms hsz
    go_wp2_with (go_at_call 29; refine (open_calls d M _ _ _ _ _ _ HD.out HM.out).mono ?_; rintro e w6 ⟨s, bases, A, n, c, rfl, hS, hR, hs, hf, hb⟩; have HFr := Aside0.mk (fun k hk => Nat.le_trans HB.out.size (hf k hk)); clear hf; have HF := Aside0.mk (And.intro hS (And.intro hR hs)); have hG6 := blk_below hG hb; have HB6 := Aside0.mk hb; have hlt6 := blk_lt hG6; have hne6 := Nat.ne_of_lt hlt6; have hc6 := (fun i => blk_cell hG6 i); have hd6 := (fun i => blk_frozen hG6 i); clear hS hR hs hb hc hd)
    have hgs : s ≠ g := blk_ne HF.out.1 hG6 (by decide)
    have hgd : d ≠ g := blk_ne HD.out hG (by decide)
    have hgM : M ≠ g := by
      intro h
      subst h
      have := HM.out.symm.trans hG
      simp at this
    refine cont (fun w7 => WorldAt w7 g (.int .i64 0) (.pointer (some ⟨d, 0, none⟩)) (.pointer (some ⟨s, 0, none⟩)) net (.slice none 0 0) knows ∧ Fresh w7 s d bases (.int .i64 0) (.int .i64 0) (.slice A n c) (.bool false) (.int .i64 0) (.slice none 0 0) ∧ Row 1 3 w7 (.slice A n c) [[.int .i64 0]] ∧
      DiskAt w7 d (.int .i64 10000) (.map (some K)) (.map (some M)) (.slice none 0 0) (.bool false) (.bool false) (.int .i64 0) ∧ w7.heap[M]? = some (.map #[] 0) ∧ Below w.heap.size w w7)
      ⟨blk_is (blk_set hG6 2 _) rfl, blk_far HF.out.1 hgs _, Row.set2 hG6 (by decide) HF.out.2.1, blk_far (blk_below HD.out HB6.out) hgd _, (Below.heap_setCell w6 _ _ M hgM).trans (blk_below HM.out HB6.out), below_set (below_step HB.out HB6.out) HZ.out.1⟩ ?_
    rintro w7 ⟨hG7, hS7, hR7, hD7, hM7, hB7⟩
    have HF7 := Aside0.mk (And.intro hS7 (And.intro hR7 (And.intro hD7 (And.intro hM7 hB7))))
    have HS := Aside0.mk (Nat.le_trans HB.out.size HF.out.2.2)
    clear hS7 hR7 hD7 hM7 hB7 HF HD HM HB HB6 hlt6 hne6 hc6 hd6 hG6 hG hlt hne hgs hgd hgM
    have hlt := blk_lt hG7
    have hne := Nat.ne_of_lt hlt
    have hc := fun i => blk_cell hG7 i
    have hd := fun i => blk_frozen hG7 i
    refine wp_loop_rounds 2 ?_
    rw [rounds_succ]
    go_wp2_with (first
      | (go_at_call 30; refine (shipFollow_calls _).mono ?_; rintro e w8 ⟨f, rfl, hb⟩; have hG8 := blk_below hG7 hb; have HB8 := Aside0.mk hb; have hlt8 := blk_lt hG8; have hne8 := Nat.ne_of_lt hlt8; have hc8 := (fun i => blk_cell hG8 i); have hd8 := (fun i => blk_frozen hG8 i); clear hb hc hd)
      | ((with_reducible refine gate_builtin (b := .append) (xs := #[.tmp 61, .tmp 63]) rfl ?_); at_builtin; refine nil_append (sz := 1) (e := 78) rfl (.tmp 61) (.tmp 63) 73 (.pointer none) 8 rfl Tryz.underlying73 infoP rfl (by decide) (by decide) [.pointer (some ⟨f, 0, none⟩)] rfl (by intro u hu; simp only [List.mem_singleton] at hu; rw [hu]; rfl) rfl rfl (by decide) ?_; intro A9 c9 w9 ho hb; have hG9 := blk_below hG8 hb; have hc9 := (fun i => blk_cell hG9 i); have hd9 := (fun i => blk_frozen hG9 i); have HB9 := Aside0.mk hb; clear ho hb))
    rw [rounds_succ]
    go_wp2
    go_ret2
    have HB := Aside0.mk (below_step HB8.out HB9.out)
    have hgs : s ≠ g := blk_ne HF7.out.1 hG7 (by decide)
    have hgd : d ≠ g := blk_ne HF7.out.2.2.1 hG7 (by decide)
    have hgM : M ≠ g := by
      intro h
      subst h
      have := HF7.out.2.2.2.1.symm.trans hG7
      simp at this
    exact ⟨g, s, d, K, M, bases, A, n, c, net, _, knows, rfl, blk_is (blk_set hG9 4 _) rfl, blk_far (blk_below HF7.out.1 HB.out) hgs _, Row.set2 hG9 (by decide) (HF7.out.2.1.below HB.out), blk_far (blk_below HF7.out.2.2.1 HB.out) hgd _,
      (Below.heap_setCell w9 _ _ M hgM).trans (blk_below HF7.out.2.2.2.1 HB.out), ⟨HZ.out.1, HS.out, HZ.out.2.1, HZ.out.2.2, HFr.out⟩, below_set (below_step HF7.out.2.2.2.2 HB.out) HZ.out.1⟩
end Go.Proofs.YtgljebaiakhbfaaGreat.Aw
