/- What this text proves: awake answers true, whatever the world; no condition. -/
import Derived.Test.YtgljebaiakhbfaaGreatAwAppend
namespace Go.Proofs.YtgljebaiakhbfaaGreat.Aw
open Go.RowKit Go.Maps Go.Sort Go.Shelf Go.Proofs Go.Proofs.YtgljebaiakhbfaaGreatW.PrintWords Go.Proofs.YtgljebaiakhbfaaGreatW.PrintLast Go.Proofs.YtgljebaiakhbfaaGreatW.PrintMore
set_option linter.unusedVariables false
set_option maxRecDepth 100000
set_option maxHeartbeats 4000000
attribute [local go_sem ↓] Go.wp_at_zero Go.wp_at_succ
attribute [local go_sem] wrap_b wrap_c
/-- What a run's first record leaves. -/
abbrev Leads (w w' : World) (s d M : Nat) (A : Option Addr) (n c : Nat) : Prop :=
  (∃ disk kind bases pieces log first synced cur named A' c' B' d', StoreAt w' s disk kind bases pieces log first synced (.int .i64 1) (.int .i64 0) (.slice A' 1 c') (.bool false) (.int .i64 0) (.slice B' 1 d') cur named ∧
        Row 1 3 w' (.slice A' 1 c') [[.int .i64 5]] ∧ Row 3 182 w' (.slice B' 1 d') [[.int .i64 0, .int .i64 1, .int .i64 0]]) ∧
      Below 0 w w' ∧ Kept w w' (fun k => k = s ∨ k = d ∨ k = M ∨ some k = (Value.slice A n c).ownBlock)
abbrev Begun (w : World) (g s d M : Nat) (K : Nat) (net followers knows bases : Value) (A : Option Addr) (n c : Nat) : Prop :=
  WorldAt w g (.int .i64 0) (.pointer (some ⟨d, 0, none⟩)) (.pointer (some ⟨s, 0, none⟩)) net followers knows ∧
      Fresh w s d bases (.int .i64 0) (.int .i64 0) (.slice A n c) (.bool false) (.int .i64 0) (.slice none 0 0) ∧ Row 1 3 w (.slice A n c) [[.int .i64 0]] ∧
      DiskAt w d (.int .i64 10000) (.map (some K)) (.map (some M)) (.slice none 0 0) (.bool false) (.bool false) (.int .i64 0) ∧ w.heap[M]? = some (.map #[] 0)
theorem world_held {w : World} {g : Nat} {kind disk store net followers knows : Value} (h : WorldAt w g kind disk store net followers knows) : w.cell? ⟨g, 2, none⟩ = some store := blk_cell h 2
theorem op_held {w : World} {o : Nat} (h : w.heap[o]? = some (.cells #[.int .i64 1, .int .i64 5, .int .i64 0] 38 (0, 0))) : w.cell? ⟨o, 0, none⟩ = some (.int .i64 1) ∧ w.cell? ⟨o, 1, none⟩ = some (.int .i64 5) ∧ w.cell? ⟨o, 2, none⟩ = some (.int .i64 0) := ⟨blk_cell h 0, blk_cell h 1, blk_cell h 2⟩
theorem begun_not {w : World} {g s d M K : Nat} {net followers knows bases : Value} {A : Option Addr} {n c : Nat} (hw : Begun w g s d M K net followers knows bases A n c) {k t : Nat} {cs : Array Value} (hk : w.heap[k]? = some (.cells cs t (0, 0)))
    (h1 : t ≠ 115) (h2 : t ≠ 108) (h3 : t ≠ 3) : ¬ (k = s ∨ k = d ∨ k = M ∨ some k = (Value.slice A n c).ownBlock) := by
  obtain ⟨hG, hS, hL, hD, hM⟩ := hw
  rintro (h | h | h | h)
  · exact blk_ne hk hS h1 h
  · exact blk_ne hk hD h2 h
  · subst h
    have := hk.symm.trans hM
    simp at this
  · exact row_not hL hk h3 h
theorem begun_below {w w1 : World} {g s d M K : Nat} {net followers knows bases : Value} {A : Option Addr} {n c : Nat} (hw : Begun w g s d M K net followers knows bases A n c) (hb : Below w.heap.size w w1) : Begun w1 g s d M K net followers knows bases A n c := by
  obtain ⟨hG, hS, hL, hD, hM⟩ := hw
  exact ⟨blk_below hG hb, blk_below hS hb, hL.below hb, blk_below hD hb, blk_below hM hb⟩
theorem wappend_calls (g s d M K : Nat) (net followers knows bases : Value) (A : Option Addr) (n c : Nat) (w : World) (hw : Begun w g s d M K net followers knows bases A n c) :
    Calls Tryz.prog 31 #[.pointer (some ⟨g, 0, none⟩), .agg #[.int .i64 1, .int .i64 5, .int .i64 0]] w fun e w' => e = .returned (.int .i64 0) ∧ Leads w w' s d M A n c := by
  have hG := hw.1
  have HB := Aside0.mk hw
  have hc := fun i => blk_cell hG i
  have hd := fun i => blk_frozen hG i
  have hlt := blk_lt hG
  have hne := Nat.ne_of_lt hlt
  clear hw
  go_enter Tryz.func31, Tryz.ntmps31
  go_upto_region 2 with (go_at_call 60; refine (fresh_next (by (repeat (first | (with_reducible exact HB.out.2.1) | (with_reducible apply blk_alloc) | (with_reducible apply blk_drew) | (with_reducible apply blk_drewN) | (with_reducible apply blk_set) | ((with_reducible apply blk_far2); (focus (first | omega | (simp; done) | (simp; omega)))))))).mono ?_; rintro e w1 ⟨rfl, hb⟩; have hG1 := blk_below hG (below_step (by (repeat (first | (with_reducible exact Below.refl _ _) | (with_reducible apply below_alloc) | (with_reducible apply below_drew1) | (with_reducible apply pw_below_drewN)))) hb); have hO1 := blk_below (blk_new w _) hb; have HB1 := Aside0.mk (below_step (by (repeat (first | (with_reducible exact Below.refl _ _) | (with_reducible apply below_alloc) | (with_reducible apply below_drew1) | (with_reducible apply pw_below_drewN)))) hb : Below w.heap.size w w1); clear hb hc hd)
  have hlt1 := blk_lt hG1
  have hne1 := Nat.ne_of_lt hlt1
  have hlo1 := blk_lt hO1
  have hno1 := Nat.ne_of_lt hlo1
  have hc1 := world_held hG1
  have ho1 := op_held hO1
  go_region_held3 (fun w' => w'.cell? ⟨g, 2, none⟩ = some (.pointer (some ⟨s, 0, none⟩)) ∧ w'.cell? ⟨w.heap.size, 0, none⟩ = some (.int .i64 1) ∧ w'.cell? ⟨w.heap.size, 1, none⟩ = some (.int .i64 5) ∧ w'.cell? ⟨w.heap.size, 2, none⟩ = some (.int .i64 0))
    (first | (refine ⟨world_held (w := _) (g := g) (kind := .int .i64 0) (disk := .pointer (some ⟨d, 0, none⟩)) (net := net) (followers := followers) (knows := knows) ?_, op_held ?_⟩; (focus (first | ((repeat (first | (with_reducible exact hG2) | (with_reducible apply blk_alloc) | (with_reducible apply blk_drew) | (with_reducible apply blk_drewN) | (with_reducible apply blk_set) | ((with_reducible apply blk_far2); (focus (first | omega | (simp; done) | (simp; omega)))))); done) | ((repeat (first | (with_reducible exact hG1) | (with_reducible apply blk_alloc) | (with_reducible apply blk_drew) | (with_reducible apply blk_drewN) | (with_reducible apply blk_set) | ((with_reducible apply blk_far2); (focus (first | omega | (simp; done) | (simp; omega)))))); done))); (first | ((repeat (first | (with_reducible exact hO2) | (with_reducible apply blk_alloc) | (with_reducible apply blk_drew) | (with_reducible apply blk_drewN) | (with_reducible apply blk_set) | ((with_reducible apply blk_far2); (focus (first | omega | (simp; done) | (simp; omega)))))); done) | ((repeat (first | (with_reducible exact hO1) | (with_reducible apply blk_alloc) | (with_reducible apply blk_drew) | (with_reducible apply blk_drewN) | (with_reducible apply blk_set) | ((with_reducible apply blk_far2); (focus (first | omega | (simp; done) | (simp; omega)))))); done))) | fail)
    (first
    | (go_at_call 62; have HBw := Aside0.mk (begun_below HB.out (below_step HB1.out (by (repeat (first | (with_reducible exact Below.refl _ _) | (with_reducible apply below_alloc) | (with_reducible apply below_drew1) | (with_reducible apply pw_below_drewN))) : Below w1.heap.size w1 (w1.drew.alloc (.cells #[.int .i64 0, .int .i64 0, .int .i64 1, .int .i64 1, .int .i64 5, .int .i64 0, .int .i64 0] 62))))); have hO1' := blk_alloc (blk_drew hO1) (.cells #[.int .i64 0, .int .i64 0, .int .i64 1, .int .i64 1, .int .i64 5, .int .i64 0, .int .i64 0] 62); refine (append_calls s d M w1.heap.size bases _ _ A n c _ HBw.out.2.1 HBw.out.2.2.1 HBw.out.2.2.2.1 HBw.out.2.2.2.2 (blk_new w1.drew _)).mono ?_; rintro e w2 ⟨rfl, hl, hz, hk⟩; have hG2 := blk_kept HBw.out.1 hk (begun_not HBw.out HBw.out.1 (by decide) (by decide) (by decide)); have hO2 := blk_kept hO1' hk (begun_not HBw.out hO1' (by decide) (by decide) (by decide)); have HF := Aside0.mk (And.intro hl (And.intro hz hk)); clear hl hz hk hO1'))
  go_wp2
  go_ret
  refine ⟨rfl, HF.out.1, ?_, ?_⟩
  · exact ((below_zero HB1.out).trans (below_zero (by (repeat (first | (with_reducible exact Below.refl _ _) | (with_reducible apply below_alloc) | (with_reducible apply below_drew1) | (with_reducible apply pw_below_drewN))) : Below w1.heap.size w1 _))).trans HF.out.2.1
  · exact (Kept.of_below (below_step HB1.out (by (repeat (first | (with_reducible exact Below.refl _ _) | (with_reducible apply below_alloc) | (with_reducible apply below_drew1) | (with_reducible apply pw_below_drewN))) : Below w1.heap.size w1 _)) (fun k => k = s ∨ k = d ∨ k = M ∨ some k = (Value.slice A n c).ownBlock)).then_ HF.out.2.2 (fun k h => .inl h)
theorem do_calls (g s d M K : Nat) (net followers knows bases : Value) (A : Option Addr) (n c : Nat) (w : World) (hw : Begun w g s d M K net followers knows bases A n c) :
    Calls Tryz.prog 13 #[.pointer (some ⟨g, 0, none⟩), .agg #[.int .i64 0, .int .i64 1, .int .i64 5, .int .i64 0]] w fun e w' => e = .returned (.int .i64 0) ∧ Leads w w' s d M A n c := by
  have HB := Aside0.mk hw
  clear hw
  go_enter Tryz.func13, Tryz.ntmps13
  go_wp2_with (go_at_call 31; refine (wappend_calls g s d M K net followers knows bases A n c _ (begun_below HB.out (by (repeat (first | (with_reducible exact Below.refl _ _) | (with_reducible apply below_alloc) | (with_reducible apply below_drew1) | (with_reducible apply pw_below_drewN)))))).mono ?_; rintro e w1 ⟨rfl, hl, hz, hk⟩; have HF := Aside0.mk (And.intro hl (And.intro hz hk)); clear hl hz hk)
  go_ret
  refine ⟨rfl, HF.out.1, (below_zero (by (repeat (first | (with_reducible exact Below.refl _ _) | (with_reducible apply below_alloc) | (with_reducible apply below_drew1) | (with_reducible apply pw_below_drewN))) : Below w.heap.size w _)).trans HF.out.2.1, ?_⟩
  exact (Kept.of_below (by (repeat (first | (with_reducible exact Below.refl _ _) | (with_reducible apply below_alloc) | (with_reducible apply below_drew1) | (with_reducible apply pw_below_drewN))) : Below w.heap.size w _) (fun k => k = s ∨ k = d ∨ k = M ∨ some k = (Value.slice A n c).ownBlock)).then_ HF.out.2.2 (fun k h => .inl h)
theorem leader_calls (g s : Nat) (kind disk' net followers knows : Value) (disk kind' bases pieces log first synced cur named : Value) (A : Option Addr) (c : Nat) (B : Option Addr) (c' : Nat) (w : World)
    (hG : WorldAt w g kind disk' (.pointer (some ⟨s, 0, none⟩)) net followers knows)
    (hS : StoreAt w s disk kind' bases pieces log first synced (.int .i64 1) (.int .i64 0) (.slice A 1 c) (.bool false) (.int .i64 0) (.slice B 1 c') cur named)
    (hL : Row 1 3 w (.slice A 1 c) [[.int .i64 5]]) (hT : Row 3 182 w (.slice B 1 c') [[.int .i64 0, .int .i64 1, .int .i64 0]]) :
    Calls Tryz.prog 14 #[.pointer (some ⟨g, 0, none⟩)] w fun e w' => (∃ v, e = .returned v ∧ OwnSnap w.heap.size w' 1 0 false 0 [[.int .i64 5]] [[.int .i64 0, .int .i64 1, .int .i64 0]] v) ∧ Below w.heap.size w w' := by
  have hc := fun i => blk_cell hG i
  have hd := fun i => blk_frozen hG i
  have hlt := blk_lt hG
  have hne := Nat.ne_of_lt hlt
  have HA := Aside0.mk (And.intro hS (And.intro hL hT))
  clear hS hL hT
  go_enter Tryz.func14, Tryz.ntmps14
  go_wp2_with (go_at_call 40; refine (now_calls s _ _ _ _ _ _ _ _ _ 1 0 A 1 c false 0 B 1 c' _ _ _ (by (repeat (first | (with_reducible exact HA.out.1) | (with_reducible apply blk_alloc) | (with_reducible apply blk_drew) | (with_reducible apply blk_drewN) | (with_reducible apply blk_set) | ((with_reducible apply blk_far2); (focus (first | omega | (simp; done) | (simp; omega))))))) (HA.out.2.1.below (by (repeat (first | (with_reducible exact Below.refl _ _) | (with_reducible apply below_alloc) | (with_reducible apply below_drew1) | (with_reducible apply pw_below_drewN))))) (HA.out.2.2.below (by (repeat (first | (with_reducible exact Below.refl _ _) | (with_reducible apply below_alloc) | (with_reducible apply below_drew1) | (with_reducible apply pw_below_drewN))))) (by decide) (by decide) (fun h => by cases h)).mono ?_; rintro e w1 ⟨⟨v, rfl, ⟨A1, n1, c1, B1, m1, d1, rfl, ho1, ho2, hz, hf⟩⟩, hb⟩; have HFr := Aside0.mk (fun k hk => Nat.le_trans (by (repeat (first | (with_reducible exact Below.refl _ _) | (with_reducible apply below_alloc) | (with_reducible apply below_drew1) | (with_reducible apply pw_below_drewN))) : Below w.heap.size w _).size (hf k hk)); have hN := blk_below (blk_new w _) hb; have hcN := (fun i => blk_cell hN i); have hdN := (fun i => blk_frozen hN i); have HF := Aside0.mk (And.intro ho1 (And.intro ho2 (And.intro hz (below_step (by (repeat (first | (with_reducible exact Below.refl _ _) | (with_reducible apply below_alloc) | (with_reducible apply below_drew1) | (with_reducible apply pw_below_drewN)))) hb : Below w.heap.size w w1)))); clear ho1 ho2 hz hf hb)
  refine bodyPost_ret (results_cell_row rfl _ _ w.heap.size 51 #[.int .i64 1, .int .i64 0, .slice A1 n1 c1, .bool false, .int .i64 0, .slice B1 m1 d1] (0, 0) _ rfl (by (apply blk_is; (focus (repeat (first | (with_reducible exact hN) | (with_reducible apply blk_alloc) | (with_reducible apply blk_drew) | (with_reducible apply blk_drewN) | (with_reducible apply blk_set) | ((with_reducible apply blk_far2); (focus (first | omega | (simp; done) | (simp; omega))))))); (focus rfl))) Tryz.underlying51 rfl (by kernel_rfl)) rfl ?_
  refine ⟨⟨_, rfl, A1, n1, c1, B1, m1, d1, rfl, ?_, ?_, HF.out.2.2.1, HFr.out⟩, ?_⟩
  · (repeat (first | (with_reducible exact HF.out.1) | (with_reducible apply Row.alloc) | (with_reducible apply Row.drew) | (with_reducible apply Row.drewN) | ((with_reducible apply Row.set2); (focus (repeat (first | (with_reducible exact hN) | (with_reducible apply blk_alloc) | (with_reducible apply blk_drew) | (with_reducible apply blk_drewN) | (with_reducible apply blk_set) | ((with_reducible apply blk_far2); (focus (first | omega | (simp; done) | (simp; omega))))))); (focus decide))))
  · (repeat (first | (with_reducible exact HF.out.2.1) | (with_reducible apply Row.alloc) | (with_reducible apply Row.drew) | (with_reducible apply Row.drewN) | ((with_reducible apply Row.set2); (focus (repeat (first | (with_reducible exact hN) | (with_reducible apply blk_alloc) | (with_reducible apply blk_drew) | (with_reducible apply blk_drewN) | (with_reducible apply blk_set) | ((with_reducible apply blk_far2); (focus (first | omega | (simp; done) | (simp; omega))))))); (focus decide))))
  · repeat (first | (with_reducible exact HF.out.2.2.2) | refine below_set ?_ (by omega))
theorem awake_calls (w : World) :
    Calls Tryz.prog 5 #[] w fun e w' => e = .returned (.bool true) ∧ Below w.heap.size w w' := by
  go_enter Tryz.func5, Tryz.ntmps5
  go_wp2_with (first
    | (go_at_call 12; refine (new_calls _).mono ?_; rintro e w1 ⟨g, s, d, K, M, bases, A, n, c, net, followers, knows, rfl, hG, hS, hL, hD, hM, hsz, hb⟩; have HB := Aside0.mk (show Begun w1 g s d M K net followers knows bases A n c from ⟨hG, hS, hL, hD, hM⟩); have HS := Aside0.mk (And.intro hsz hb); clear hG hS hL hD hM hsz hb)
    | (go_at_call 13; refine (do_calls g s d M K net followers knows bases A n c _ HB.out).mono ?_; rintro e w2 ⟨rfl, ⟨disk, kind, bas, pieces, log, first, synced, cur, named, A', c', B', d', hS, hL, hT⟩, hz, hk⟩; have HG2 := Aside0.mk (blk_kept HB.out.1 hk (begun_not HB.out HB.out.1 (by decide) (by decide) (by decide))); have HA2 := Aside0.mk (And.intro hS (And.intro hL hT)); have HB2 := Aside0.mk (below_kept HS.out.2 hk hz (by rintro k (h | h | h | h); (focus (rw [h]; exact HS.out.1.2.1)); (focus (rw [h]; exact HS.out.1.2.2.1)); (focus (rw [h]; exact HS.out.1.2.2.2.1)); exact HS.out.1.2.2.2.2 k h.symm)); clear hS hL hT hz hk)
    | (go_at_call 14; refine (leader_calls g s _ _ _ _ _ _ _ _ _ _ _ _ _ _ A' c' B' d' _ HG2.out HA2.out.1 HA2.out.2.1 HA2.out.2.2).mono ?_; rintro e w3 ⟨⟨v, rfl, ⟨A3, n3, c3, B3, m3, d3, rfl, hr3, he3, hz3, hf3⟩⟩, hb⟩; have hn3 := (Kd.R_reads' hr3).1; simp only [List.length_cons, List.length_nil] at hn3; subst hn3; obtain ⟨g3, cur3, rfl, hg3, hcur3⟩ := row_one hr3; have hl3 := blk_lt hg3; have hl3' := Nat.ne_of_lt hl3; have hc0 := (blk_cell hg3 0).trans (hcur3 0 _ rfl); have hd0 := blk_frozen hg3 0; have HB3 := Aside0.mk (below_step HB2.out hb); clear hb hr3 he3 hz3 hf3 hcur3 hg3; dsimp only [snapV]))
  go_ret
  exact ⟨rfl, below_alloc HB3.out _⟩
end Go.Proofs.YtgljebaiakhbfaaGreat.Aw
