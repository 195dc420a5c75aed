/- What this text proves: what the store's follow does at a disk that has no files; condition: the blocks. -/
import Derived.Test.YtgljebaiakhbfaaGreatAwTook
import Derived.Deep.RegionHeld3
import Derived.Deep.DrawnRows
import Derived.Deep.DeepCutAuto
namespace Go.Proofs.YtgljebaiakhbfaaGreat.Aw
open Go.RowKit Go.Maps Go.Sort Go.Shelf Go.Proofs Go.Proofs.YtgljebaiakhbfaaGreatW.PrintWords Go.Proofs.YtgljebaiakhbfaaGreatW.PrintLast Go.Proofs.YtgljebaiakhbfaaGreatW.PrintMore
set_option linter.unusedVariables false
set_option maxRecDepth 100000
set_option maxHeartbeats 4000000
attribute [local go_sem ↓] Go.wp_at_zero Go.wp_at_succ
/-- A store before its first record. -/
abbrev Fresh (w : World) (s d : Nat) (bases n0 n1 n2 n3 n4 n5 : Value) : Prop :=
  StoreAt w s (.pointer (some ⟨d, 0, none⟩)) (.int .i64 0) bases (.slice none 0 0) (.slice none 0 0) (.int .i64 0) (.int .i64 0) n0 n1 n2 n3 n4 n5 (.int .i64 0) (.bool false)
theorem wrap00 : IntKind.i64.wrap ((0 : Int) - 0) = 0 := by decide
theorem wrap01 : IntKind.i64.wrap 0 = 0 := by decide
attribute [local go_sem] wrap00 wrap01
theorem fresh_held {w : World} {s d : Nat} {bases n0 n1 n2 n3 n4 n5 : Value} (h : Fresh w s d bases n0 n1 n2 n3 n4 n5) : w.cell? ⟨s, 4, none⟩ = some (.slice none 0 0) ∧ w.cell? ⟨s, 5, none⟩ = some (.int .i64 0) := ⟨blk_cell h 4, blk_cell h 5⟩
theorem lt_alloc (w : World) (o : Obj) : w.heap.size < (w.alloc o).heap.size := by simp
theorem field0 (i k : Int) (A : Option Addr) (n c : Nat) (sl : Bool) (t : Int) (B : Option Addr) (m d : Nat) (W : World) : (Instr.field 51 (snapV i k A n c sl t B m d) 0).run Tryz.prog W = .ok (.int .i64 i) W := by
  simp [Instr.field, run_underlying Tryz.underlying51, part, asAgg, sizeOf, go_sem, Result.andThen]
/-- What is known of a world goes on in its place. -/
theorem cont {K : Act → World → Prop} {a : Act} {w : World} (P : World → Prop) (h : P w) (k : ∀ w5, P w5 → K a w5) : K a w := k w h
theorem follow_calls (s d b : Nat) (p0 p1 p2 p3 p4 p5 : Value) (A : Option Addr) (n c : Nat) (w : World)
    (hS : Fresh w s d (.slice (some ⟨b, 0, none⟩) 1 1) p0 p1 p2 p3 p4 p5) (hB : SnapAt w b 0 0 A n c false 0 none 0 0) (hL : Row 1 3 w (.slice A n c) [[.int .i64 0]]) :
    Calls Tryz.prog 58 #[.pointer (some ⟨s, 0, none⟩)] w fun e w' => e = .returned (.bool true) ∧
      (∃ A' n' c', Fresh w' s d (.slice (some ⟨b, 0, none⟩) 1 1) (.int .i64 0) (.int .i64 0) (.slice A' n' c') (.bool false) (.int .i64 0) (.slice none 0 0) ∧ Row 1 3 w' (.slice A' n' c') [[.int .i64 0]] ∧ ∀ k, (Value.slice A' n' c').ownBlock = some k → w.heap.size ≤ k) ∧ Below 0 w w' ∧ Kept w w' (fun k => k = s) := by
  have hc := fun i => blk_cell hS i
  have hd := fun i => blk_frozen hS i
  have hlt := blk_lt hS
  have hne := Nat.ne_of_lt hlt
  have hbase := fun W (h : Below w.heap.size w W) => base_calls s b _ _ _ _ _ _ _ _ _ _ _ _ _ _ 0 0 A n c false 0 none 0 0 _ [] W (blk_below hS h) (blk_below hB h) (hL.below h) (Row.nil _ _ _) (by decide) (by decide) (fun _ => rfl)
  have hnext : ∀ W, Below w.heap.size w W → Calls Tryz.prog 60 #[.pointer (some ⟨s, 0, none⟩)] W (fun e w' => e = .returned (.int .i64 0) ∧ Below W.heap.size W w') := fun W h => (next_calls s 0 0 none 0 _ _ _ _ _ _ _ _ _ _ _ _ _ W (blk_below hS h)).mono (fun e w' h => ⟨h.1.trans (by rw [show wrap64 (0 + ((0 : Nat) : Int)) = 0 from by rw [← i64_w]; decide]), h.2⟩)
  go_enter Tryz.func58, Tryz.ntmps58
  go_upto_region 4 with (first
    | (go_at_call 59; refine (hbase _ (by (repeat (first | (with_reducible exact Below.refl _ _) | (with_reducible apply below_alloc) | (with_reducible apply below_drew1) | (with_reducible apply pw_below_drewN))))).mono ?_; rintro e w1 ⟨⟨v, rfl, ⟨A1, n1, c1, B1, m1, d1, rfl, ho1, ho2, hz, hf⟩⟩, hb⟩; clear hf; obtain ⟨HB1⟩ : Aside0 (Below w.heap.size w w1) := ⟨below_step (by (repeat (first | (with_reducible exact Below.refl _ _) | (with_reducible apply below_alloc) | (with_reducible apply below_drew1) | (with_reducible apply pw_below_drewN)))) hb⟩; have hS1 := blk_below hS HB1; have hc1 := (fun i => blk_cell hS1 i); have hd1 := (fun i => blk_frozen hS1 i); have HB1' := Aside0.mk HB1; clear hb ho1 ho2 hz HB1; have hfl := field0 0 0 A1 n1 c1 false 0 B1 m1 d1; dsimp only [snapV] at hfl ⊢)
    | (go_at_call 60; refine (hnext _ (below_step HB1'.out (by (repeat (first | (with_reducible exact Below.refl _ _) | (with_reducible apply below_alloc) | (with_reducible apply below_drew1) | (with_reducible apply pw_below_drewN)))))).mono ?_; rintro e w2 ⟨rfl, hb⟩; obtain ⟨HB2⟩ : Aside0 (Below w.heap.size w w2) := ⟨below_step HB1'.out (below_step (by (repeat (first | (with_reducible exact Below.refl _ _) | (with_reducible apply below_alloc) | (with_reducible apply below_drew1) | (with_reducible apply pw_below_drewN)))) hb)⟩; have hS2 := blk_below hS HB2; have hlt2 := blk_lt hS2; have hne2 := Nat.ne_of_lt hlt2; have hc2 := (fun i => blk_cell hS2 i); have hd2 := (fun i => blk_frozen hS2 i); have HB2' := Aside0.mk HB2; clear hb HB2))
  obtain ⟨HBp⟩ := HB2'
  have hcs4 := hc2 4
  have hcs5 := hc2 5
  have HN := Aside0.mk hbase
  clear hc hd hc1 hd1 hS1 hfl hnext hbase hc2 hd2 HB1' hL hB
  go_cut [4, 5] (fun v4 v5 w5 => ∃ g, v4 = .pointer (some ⟨g, 0, none⟩) ∧ v5 = .int .i64 0 ∧ ∃ A3 n3 c3, s < g ∧ Fresh w5 s d (.slice (some ⟨b, 0, none⟩) 1 1) p0 p1 p2 p3 p4 p5 ∧ SnapAt w5 g 0 0 A3 n3 c3 false 0 none 0 0 ∧ Row 1 3 w5 (.slice A3 n3 c3) [[.int .i64 0]] ∧ Below w.heap.size w w5 ∧ ∀ k, (Value.slice A3 n3 c3).ownBlock = some k → w.heap.size ≤ k)
  case first =>
    go_region_held3 (fun w' => w'.cell? ⟨s, 4, none⟩ = some (.slice none 0 0) ∧ w'.cell? ⟨s, 5, none⟩ = some (.int .i64 0)) (first | (refine fresh_held (d := d) (bases := .slice (some ⟨b, 0, none⟩) 1 1) (n0 := p0) (n1 := p1) (n2 := p2) (n3 := p3) (n4 := p4) (n5 := p5) ?_; (repeat (first | (with_reducible exact hS4) | (with_reducible apply blk_alloc) | (with_reducible apply blk_drew) | (with_reducible apply blk_drewN) | (with_reducible apply blk_set) | ((with_reducible apply blk_far2); (focus (first | omega | (simp; done) | (simp; omega)))))); done) | (refine fresh_held (d := d) (bases := .slice (some ⟨b, 0, none⟩) 1 1) (n0 := p0) (n1 := p1) (n2 := p2) (n3 := p3) (n4 := p4) (n5 := p5) ?_; (repeat (first | (with_reducible exact hS3) | (with_reducible apply blk_alloc) | (with_reducible apply blk_drew) | (with_reducible apply blk_drewN) | (with_reducible apply blk_set) | ((with_reducible apply blk_far2); (focus (first | omega | (simp; done) | (simp; omega)))))); done) | (refine fresh_held (d := d) (bases := .slice (some ⟨b, 0, none⟩) 1 1) (n0 := p0) (n1 := p1) (n2 := p2) (n3 := p3) (n4 := p4) (n5 := p5) ?_; (repeat (first | (with_reducible exact hS2) | (with_reducible apply blk_alloc) | (with_reducible apply blk_drew) | (with_reducible apply blk_drewN) | (with_reducible apply blk_set) | ((with_reducible apply blk_far2); (focus (first | omega | (simp; done) | (simp; omega)))))); done) | fail)
      (first
      | (go_at_call 59; refine (HN.out _ (below_step HBp (by (repeat (first | (with_reducible exact Below.refl _ _) | (with_reducible apply below_alloc) | (with_reducible apply below_drew1) | (with_reducible apply pw_below_drewN)))))).mono ?_; rintro e w3 ⟨⟨v, rfl, ⟨A3, n3, c3, B3, m3, d3, rfl, ho1, ho2, hz, hf⟩⟩, hb⟩; have HFr := Aside0.mk (fun k hk => Nat.le_trans (below_step HBp (by (repeat (first | (with_reducible exact Below.refl _ _) | (with_reducible apply below_alloc) | (with_reducible apply below_drew1) | (with_reducible apply pw_below_drewN))) : Below w2.heap.size w2 _)).size (hf k hk)); clear hf; (first | (have hN3 : w3.heap[w2.heap.size]? = some _ := blk_below (blk_new w2.drew _) hb) | skip); obtain ⟨HB3⟩ : Aside0 (Below w.heap.size w w3) := ⟨below_step HBp (below_step (by (repeat (first | (with_reducible exact Below.refl _ _) | (with_reducible apply below_alloc) | (with_reducible apply below_drew1) | (with_reducible apply pw_below_drewN)))) hb)⟩; have hS3 := blk_below hS HB3; have hlt3 := blk_lt hS3; have hne3 := Nat.ne_of_lt hlt3; have hc3 := (fun i => blk_cell hS3 i); have hd3 := (fun i => blk_frozen hS3 i); have HB3' := Aside0.mk HB3; have HO3 := Aside0.mk ho1; obtain ⟨rfl, rfl, rfl⟩ := (by simpa using hz rfl : B3 = none ∧ m3 = 0 ∧ d3 = 0); clear hb ho1 ho2 hz HB3)
      | (go_at_call 98; refine (take0 0 0 A3 n3 c3 false 0 none 0 0 _ _ _).mono ?_; rintro e w4 ⟨rfl, hb⟩; (first | (have hN4 := blk_below hN3 hb; have hcN4 := (fun i => blk_cell hN4 i); have hdN4 := (fun i => blk_frozen hN4 i)) | (have hN4 := blk_below (blk_new w3 _) hb; have hcN4 := (fun i => blk_cell hN4 i); have hdN4 := (fun i => blk_frozen hN4 i)) | skip); obtain ⟨HB4⟩ : Aside0 (Below w3.heap.size w3 w4) := ⟨below_step (by (repeat (first | (with_reducible exact Below.refl _ _) | (with_reducible apply below_alloc) | (with_reducible apply below_drew1) | (with_reducible apply pw_below_drewN)))) hb⟩; have hS4 := blk_below hS3 HB4; have hlt4 := blk_lt hS4; have hne4 := Nat.ne_of_lt hlt4; have hc4 := (fun i => blk_cell hS4 i); have hd4 := (fun i => blk_frozen hS4 i); have HB4' := Aside0.mk HB4; clear hb HB4; dsimp only [snapV]))
    all_goals (go_wp2_with fail)
    · go_meet
      case rel =>
        refine ⟨w4.heap.size, rfl, rfl, A3, n3, c3, hlt4, by (repeat (first | (with_reducible exact hS4) | (with_reducible apply blk_alloc) | (with_reducible apply blk_drew) | (with_reducible apply blk_drewN) | (with_reducible apply blk_set) | ((with_reducible apply blk_far2); (focus (first | omega | (simp; done) | (simp; omega)))))), by (apply blk_is; (focus (repeat (first | (with_reducible exact (blk_new w4 _)) | (with_reducible apply blk_alloc) | (with_reducible apply blk_drew) | (with_reducible apply blk_drewN) | (with_reducible apply blk_set) | ((with_reducible apply blk_far2); (focus (first | omega | (simp; done) | (simp; omega))))))); (focus rfl)), by (repeat (first | (with_reducible exact (HO3.out.below HB4'.out)) | (with_reducible apply Row.alloc) | (with_reducible apply Row.drew) | (with_reducible apply Row.drewN) | ((with_reducible apply Row.set2); (focus (repeat (first | (with_reducible exact (blk_new w4 _)) | (with_reducible apply blk_alloc) | (with_reducible apply blk_drew) | (with_reducible apply blk_drewN) | (with_reducible apply blk_set) | ((with_reducible apply blk_far2); (focus (first | omega | (simp; done) | (simp; omega))))))); (focus decide)))), ?_, HFr.out⟩
        have hg : w.heap.size ≤ w4.heap.size := Nat.le_trans HB3'.out.size HB4'.out.size
        repeat (first | (with_reducible exact below_alloc (below_step HB3'.out HB4'.out) _) | (with_reducible refine below_set ?_ hg))
    · go_meet
      case rel =>
        refine ⟨w3.heap.size, rfl, rfl, A3, n3, c3, hlt3, by (repeat (first | (with_reducible exact hS4) | (with_reducible apply blk_alloc) | (with_reducible apply blk_drew) | (with_reducible apply blk_drewN) | (with_reducible apply blk_set) | ((with_reducible apply blk_far2); (focus (first | omega | (simp; done) | (simp; omega)))))), by (apply blk_is; (focus (repeat (first | (with_reducible exact hN4) | (with_reducible apply blk_alloc) | (with_reducible apply blk_drew) | (with_reducible apply blk_drewN) | (with_reducible apply blk_set) | ((with_reducible apply blk_far2); (focus (first | omega | (simp; done) | (simp; omega))))))); (focus rfl)), by (repeat (first | (with_reducible exact (HO3.out.below HB4'.out)) | (with_reducible apply Row.alloc) | (with_reducible apply Row.drew) | (with_reducible apply Row.drewN) | ((with_reducible apply Row.set2); (focus (repeat (first | (with_reducible exact hN4) | (with_reducible apply blk_alloc) | (with_reducible apply blk_drew) | (with_reducible apply blk_drewN) | (with_reducible apply blk_set) | ((with_reducible apply blk_far2); (focus (first | omega | (simp; done) | (simp; omega))))))); (focus decide)))), ?_, HFr.out⟩
        have hg : w.heap.size ≤ w3.heap.size := HB3'.out.size
        repeat (first | (with_reducible exact below_step HB3'.out HB4'.out) | (with_reducible refine below_set ?_ hg))
    · go_meet
      case rel =>
        refine ⟨w2.heap.size, rfl, rfl, A3, n3, c3, hlt2, by (repeat (first | (with_reducible exact hS4) | (with_reducible apply blk_alloc) | (with_reducible apply blk_drew) | (with_reducible apply blk_drewN) | (with_reducible apply blk_set) | ((with_reducible apply blk_far2); (focus (first | omega | (simp; done) | (simp; omega)))))), by (apply blk_is; (focus (repeat (first | (with_reducible exact hN4) | (with_reducible apply blk_alloc) | (with_reducible apply blk_drew) | (with_reducible apply blk_drewN) | (with_reducible apply blk_set) | ((with_reducible apply blk_far2); (focus (first | omega | (simp; done) | (simp; omega))))))); (focus rfl)), by (repeat (first | (with_reducible exact (HO3.out.below HB4'.out)) | (with_reducible apply Row.alloc) | (with_reducible apply Row.drew) | (with_reducible apply Row.drewN) | ((with_reducible apply Row.set2); (focus (repeat (first | (with_reducible exact hN4) | (with_reducible apply blk_alloc) | (with_reducible apply blk_drew) | (with_reducible apply blk_drewN) | (with_reducible apply blk_set) | ((with_reducible apply blk_far2); (focus (first | omega | (simp; done) | (simp; omega))))))); (focus decide)))), ?_, HFr.out⟩
        have hg : w.heap.size ≤ w2.heap.size := HBp.size
        repeat (first | (with_reducible exact below_step HB3'.out HB4'.out) | (with_reducible refine below_set ?_ hg))
  case rest =>
    obtain ⟨g, rfl, rfl, A3, n3, c3, hsg, hS5, hG5, hR5, hB5, hF5⟩ := hcut
    have HF5 := Aside0.mk hF5
    clear hF5
    have hc5 := fun i => blk_cell hS5 i
    have hd5 := fun i => blk_frozen hS5 i
    have hcg := fun i => blk_cell hG5 i
    have hdg := fun i => blk_frozen hG5 i
    have HR5 := Aside0.mk hR5
    have HB5 := Aside0.mk hB5
    have hn5 := Nat.ne_of_lt hsg
    clear hR5 hB5 hS2 hlt2 hne2 hcs4 hcs5 HN hlt hne hS HBp
    go_wp2
    go_ret
    refine ⟨rfl, ⟨A3, n3, c3, by (apply blk_is; (focus (repeat (first | (with_reducible exact hS5) | (with_reducible apply blk_alloc) | (with_reducible apply blk_drew) | (with_reducible apply blk_drewN) | (with_reducible apply blk_set) | ((with_reducible apply blk_far2); (focus (first | omega | (simp; done) | (simp; omega))))))); (focus rfl)), by (repeat (first | (with_reducible exact HR5.out) | (with_reducible apply Row.alloc) | (with_reducible apply Row.drew) | (with_reducible apply Row.drewN) | ((with_reducible apply Row.set2); (focus (repeat (first | (with_reducible exact hS5) | (with_reducible apply blk_alloc) | (with_reducible apply blk_drew) | (with_reducible apply blk_drewN) | (with_reducible apply blk_set) | ((with_reducible apply blk_far2); (focus (first | omega | (simp; done) | (simp; omega))))))); (focus decide)))), HF5.out⟩, ?_, ?_⟩
    · have z := below_zero HB5.out
      exact (((((z.setCell (Nat.zero_le _) _).setCell (Nat.zero_le _) _).setCell (Nat.zero_le _) _).setCell (Nat.zero_le _) _).setCell (Nat.zero_le _) _).setCell (Nat.zero_le _) _
    · have z := Kept.of_below HB5.out (fun k => k = s)
      exact (((((z.setCell (.inl rfl) _).setCell (.inl rfl) _).setCell (.inl rfl) _).setCell (.inl rfl) _).setCell (.inl rfl) _).setCell (.inl rfl) _
end Go.Proofs.YtgljebaiakhbfaaGreat.Aw
