/- What this text proves: what snapshot.Take tells of no record and of a first record; condition: the rows. -/
import Derived.Test.YtgljebaiakhbfaaGreatAwTake
import Derived.Deep.DeepCutAuto
namespace Go.Proofs.YtgljebaiakhbfaaGreat.Aw
open Go.RowKit Go.Maps Go.Sort Go.Shelf Go.Proofs Go.Proofs.YtgljebaiakhbfaaGreatW.PrintWords Go.Proofs.YtgljebaiakhbfaaGreatW.PrintLast Go.Proofs.YtgljebaiakhbfaaGreatW.PrintMore
set_option linter.unusedVariables false
set_option maxRecDepth 100000
set_option maxHeartbeats 4000000
theorem take0 (i k : Int) (A : Option Addr) (n c : Nat) (s : Bool) (t : Int) (B : Option Addr) (m d : Nat) (A0 : Option Addr) (c0 : Nat) (w : World) :
    Calls Tryz.prog 98 #[snapV i k A n c s t B m d, .slice A0 0 c0] w fun e w' => e = .returned (.tuple #[snapV i k A n c s t B m d, .int .i64 0]) ∧ Below w.heap.size w w' := by
  go_enter Tryz.func98, Tryz.ntmps98
  go_wp2
  refine wp_loop_rounds 1 ?_
  rw [rounds_succ]
  go_wp2
  refine bodyPost_ret (results_ct rfl _ _ (w.heap.size + 1) 51 _ (0, 0) _ rfl (new2 w _ _) Tryz.underlying51 rfl (by kernel_rfl)) rfl ?_
  exact ⟨rfl, by (repeat (first | (with_reducible exact Below.refl _ _) | (with_reducible apply below_alloc) | (with_reducible apply below_drew1) | (with_reducible apply pw_below_drewN)))⟩
theorem take1 (A : Option Addr) (n c : Nat) (b : Nat) (w : World) (hL : Row 1 3 w (.slice A n c) [[.int .i64 0]])
    (hb : w.heap[b]? = some (.cells #[.int .i64 0, .int .i64 0, .int .i64 1, .int .i64 1, .int .i64 5, .int .i64 0, .int .i64 0] 62 (0, 0))) :
    Calls Tryz.prog 98 #[snapV 0 0 A n c false 0 none 0 0, .slice (some ⟨b, 0, none⟩) 1 1] w fun e w' =>
      ∃ A' c' B' d', e = .returned (.tuple #[snapV 1 0 A' 1 c' false 0 B' 1 d', .int .i64 0]) ∧ Row 1 3 w' (.slice A' 1 c') [[.int .i64 5]] ∧ Row 3 182 w' (.slice B' 1 d') [[.int .i64 0, .int .i64 1, .int .i64 0]] ∧
        Below 0 w w' ∧ Kept w w' (fun k => some k = (Value.slice A n c).ownBlock) := by
  have hc := fun i => blk_cell hb i
  have hd := fun i => blk_frozen hb i
  have hlt := blk_lt hb
  have hne := Nat.ne_of_lt hlt
  have HL := Aside0.mk hL
  clear hL
  go_enter Tryz.func98, Tryz.ntmps98
  go_wp2
  refine wp_loop_rounds 2 ?_
  rw [rounds_succ]
  go_upto_region 4 with fail
  obtain ⟨wb, hwb⟩ : ∃ wb, (((w.alloc (.cells #[.int .i64 0, .int .i64 0, .slice A n c, .bool false, .int .i64 0, .slice none 0 0] 51)).alloc (.cells #[.int .i64 0, .int .i64 0, .slice none 0 0, .bool false, .int .i64 0, .slice none 0 0] 51)).alloc (.cells #[.int .i64 0, .int .i64 0, .int .i64 1, .int .i64 1, .int .i64 5, .int .i64 0, .int .i64 0] 62)) = wb := ⟨_, rfl⟩
  have h1 : wb.heap[w.heap.size]? = some (.cells #[.int .i64 0, .int .i64 0, .slice A n c, .bool false, .int .i64 0, .slice none 0 0] 51 (0, 0)) := by rw [← hwb]; exact blk_alloc (blk_alloc (blk_new w _) _) _
  have h2 : wb.heap[w.heap.size + 1]? = some (.cells #[.int .i64 0, .int .i64 0, .slice none 0 0, .bool false, .int .i64 0, .slice none 0 0] 51 (0, 0)) := by rw [← hwb]; exact blk_alloc (new2 w _ _) _
  have h3 : wb.heap[w.heap.size + 1 + 1]? = some (.cells #[.int .i64 0, .int .i64 0, .int .i64 1, .int .i64 1, .int .i64 5, .int .i64 0, .int .i64 0] 62 (0, 0)) := by rw [← hwb]; exact new3 w _ _ _
  have hBb : Below w.heap.size w wb := by rw [← hwb]; (repeat (first | (with_reducible exact Below.refl _ _) | (with_reducible apply below_alloc) | (with_reducible apply below_drew1) | (with_reducible apply pw_below_drewN)))
  rw [hwb]
  clear hwb
  have hAlt : ∀ k, (Value.slice A n c).ownBlock = some k → k < w.heap.size := Kd.R_lt HL.out
  have HLb := Aside0.mk (HL.out.below hBb)
  have HBb := Aside0.mk hBb
  clear HL hBb hc hd hb hlt hne
  have hc1 := fun i => blk_cell h1 i
  have hd1 := fun i => blk_frozen h1 i
  have hc3 := fun i => blk_cell h3 i
  have hd3 := fun i => blk_frozen h3 i
  have hfit : QTopForms.schema_Fits.f 0 0 1 1 5 0 0 = some true := by kernel_rfl
  go_upto_region 9 with (first
    | (go_at_call 43; refine (QTopForms.schema_Fits.calls 0 0 1 1 5 0 0 true _ hfit).mono ?_; rintro e w1 ⟨rfl, hb⟩; have h11 := blk_below h1 hb; have h12 := blk_below h2 hb; have h13 := blk_below h3 hb; have hc11 := (fun i => blk_cell h11 i); have hd11 := (fun i => blk_frozen h11 i); have hc13 := (fun i => blk_cell h13 i); have hd13 := (fun i => blk_frozen h13 i); have HLw := Aside0.mk (HLb.out.below hb); have HB1 := Aside0.mk (below_step HBb.out hb); clear hb)
    | (go_at_call 144; refine (step_calls A n c _ HLw.out).mono ?_; rintro e w2 ⟨A2, c2, rfl, ho, hz, hk⟩; have HO := Aside0.mk ho; have HZ2 := Aside0.mk hz; have HK2 := Aside0.mk hk; have h21 := blk_kept h11 hk (fun he => absurd (hAlt _ he.symm) (by omega)); have h22 := blk_kept h12 hk (fun he => absurd (hAlt _ he.symm) (by omega)); have h23 := blk_kept h13 hk (fun he => absurd (hAlt _ he.symm) (by omega)); have hc21 := (fun i => blk_cell h21 i); have hd21 := (fun i => blk_frozen h21 i); have hc23 := (fun i => blk_cell h23 i); have hd23 := (fun i => blk_frozen h23 i); clear ho hz hk))
  obtain ⟨w3, hw3⟩ : ∃ w3, (((((w2.setCell ⟨w.heap.size, 1, none⟩ (.int .i64 0)).setCell ⟨w.heap.size, 2, none⟩ (.slice A2 1 c2)).setCell ⟨w.heap.size, 3, none⟩ (.bool false)).setCell ⟨w.heap.size, 4, none⟩ (.int .i64 0)).setCell ⟨w.heap.size + 1 + 1, 6, none⟩ (.int .i64 0)) = w3 := ⟨_, rfl⟩
  have hn1 : w.heap.size ≠ w.heap.size + 1 + 1 := by omega
  have hn2 : w.heap.size + 1 ≠ w.heap.size := by omega
  have hn3 : w.heap.size + 1 ≠ w.heap.size + 1 + 1 := by omega
  have hn4 : w.heap.size + 1 + 1 ≠ w.heap.size := by omega
  have hg3 : w.heap.size ≤ w.heap.size + 1 + 1 := by omega
  have h31 : w3.heap[w.heap.size]? = some (.cells #[.int .i64 0, .int .i64 0, .slice A2 1 c2, .bool false, .int .i64 0, .slice none 0 0] 51 (0, 0)) := by rw [← hw3]; (apply blk_is; (focus (repeat (first | (with_reducible exact h21) | (with_reducible apply blk_alloc) | (with_reducible apply blk_drew) | (with_reducible apply blk_drewN) | (with_reducible apply blk_set) | ((with_reducible apply blk_far2); (focus (first | omega | (simp; done) | (simp; omega))))))); (focus rfl))
  have h32 : w3.heap[w.heap.size + 1]? = some (.cells #[.int .i64 0, .int .i64 0, .slice none 0 0, .bool false, .int .i64 0, .slice none 0 0] 51 (0, 0)) := by rw [← hw3]; (apply blk_is; (focus (repeat (first | (with_reducible exact h22) | (with_reducible apply blk_alloc) | (with_reducible apply blk_drew) | (with_reducible apply blk_drewN) | (with_reducible apply blk_set) | ((with_reducible apply blk_far2); (focus (first | omega | (simp; done) | (simp; omega))))))); (focus rfl))
  have h33 : w3.heap[w.heap.size + 1 + 1]? = some (.cells #[.int .i64 0, .int .i64 0, .int .i64 1, .int .i64 1, .int .i64 5, .int .i64 0, .int .i64 0] 62 (0, 0)) := by rw [← hw3]; (apply blk_is; (focus (repeat (first | (with_reducible exact h23) | (with_reducible apply blk_alloc) | (with_reducible apply blk_drew) | (with_reducible apply blk_drewN) | (with_reducible apply blk_set) | ((with_reducible apply blk_far2); (focus (first | omega | (simp; done) | (simp; omega))))))); (focus rfl))
  have HO3 : Aside0 (Row 1 3 w3 (.slice A2 1 c2) [[.int .i64 5]]) := ⟨by rw [← hw3]; refine Row.set2 (by (repeat (first | (with_reducible exact h23) | (with_reducible apply blk_alloc) | (with_reducible apply blk_drew) | (with_reducible apply blk_drewN) | (with_reducible apply blk_set) | ((with_reducible apply blk_far2); (focus (first | omega | (simp; done) | (simp; omega))))))) (by decide) ?_; (repeat (first | (with_reducible exact HO.out) | (with_reducible apply Row.alloc) | (with_reducible apply Row.drew) | (with_reducible apply Row.drewN) | ((with_reducible apply Row.set2); (focus (repeat (first | (with_reducible exact h21) | (with_reducible apply blk_alloc) | (with_reducible apply blk_drew) | (with_reducible apply blk_drewN) | (with_reducible apply blk_set) | ((with_reducible apply blk_far2); (focus (first | omega | (simp; done) | (simp; omega))))))); (focus decide))))⟩
  have HZ3 : Aside0 (Below 0 w w3) := ⟨by rw [← hw3]; exact ((((((below_zero HB1.out).trans HZ2.out).setCell (Nat.zero_le _) _).setCell (Nat.zero_le _) _).setCell (Nat.zero_le _) _).setCell (Nat.zero_le _) _).setCell (Nat.zero_le _) _⟩
  have HK3 : Aside0 (Kept w w3 (fun k => some k = (Value.slice A n c).ownBlock)) := ⟨by rw [← hw3]; exact ((((((Kept.of_below HB1.out (fun k => some k = (Value.slice A n c).ownBlock)).then_ HK2.out (fun k hk => .inl hk)).setCell (.inr (Nat.le_refl _)) _).setCell (.inr (Nat.le_refl _)) _).setCell (.inr (Nat.le_refl _)) _).setCell (.inr (Nat.le_refl _)) _).setCell (.inr hg3) _⟩
  rw [hw3]
  clear hw3 h1 h2 h3 h11 h12 h13 h21 h22 h23 hc1 hd1 hc3 hd3 hc11 hd11 hc13 hd13 hc21 hd21 hc23 hd23 HO HZ2 HK2 HB1 HLw HBb HLb
  have hc31 := fun i => blk_cell h31 i
  have hd31 := fun i => blk_frozen h31 i
  have hc33 := fun i => blk_cell h33 i
  have hd33 := fun i => blk_frozen h33 i
  have hwr : IntKind.i64.wrap 1 = 1 := by decide
  go_region_with (go_at_call 145; refine (note_calls _).mono ?_; rintro e w4 ⟨A4, c4, rfl, ho, hb⟩; replace hb := below_step (w := w3) (by (repeat (first | exact Below.refl _ _ | apply below_drew1 | apply pw_below_drewN))) hb; have h41 := blk_below h31 hb; have h42 := blk_below h32 hb; have hc41 := (fun i => blk_cell h41 i); have hd41 := (fun i => blk_frozen h41 i); have hc42 := (fun i => blk_cell h42 i); have hd42 := (fun i => blk_frozen h42 i); have HT4 := Aside0.mk ho; have HB4 := Aside0.mk hb; clear ho hb)
  all_goals
    obtain ⟨w5, hw5⟩ : ∃ w5, ((w4.setCell ⟨w.heap.size, 0, none⟩ (.int .i64 1)).setCell ⟨w.heap.size, 5, none⟩ (.slice A4 1 c4)) = w5 := ⟨_, rfl⟩
    have h51 : w5.heap[w.heap.size]? = some (.cells #[.int .i64 1, .int .i64 0, .slice A2 1 c2, .bool false, .int .i64 0, .slice A4 1 c4] 51 (0, 0)) := by rw [← hw5]; (apply blk_is; (focus (repeat (first | (with_reducible exact h41) | (with_reducible apply blk_alloc) | (with_reducible apply blk_drew) | (with_reducible apply blk_drewN) | (with_reducible apply blk_set) | ((with_reducible apply blk_far2); (focus (first | omega | (simp; done) | (simp; omega))))))); (focus rfl))
    have h52 : w5.heap[w.heap.size + 1]? = some (.cells #[.int .i64 0, .int .i64 0, .slice none 0 0, .bool false, .int .i64 0, .slice none 0 0] 51 (0, 0)) := by rw [← hw5]; (apply blk_is; (focus (repeat (first | (with_reducible exact h42) | (with_reducible apply blk_alloc) | (with_reducible apply blk_drew) | (with_reducible apply blk_drewN) | (with_reducible apply blk_set) | ((with_reducible apply blk_far2); (focus (first | omega | (simp; done) | (simp; omega))))))); (focus rfl))
    have HR : Aside0 (Row 3 182 w5 (.slice A4 1 c4) [[.int .i64 0, .int .i64 1, .int .i64 0]]) := ⟨by rw [← hw5]; (repeat (first | (with_reducible exact HT4.out) | (with_reducible apply Row.alloc) | (with_reducible apply Row.drew) | (with_reducible apply Row.drewN) | ((with_reducible apply Row.set2); (focus (repeat (first | (with_reducible exact h41) | (with_reducible apply blk_alloc) | (with_reducible apply blk_drew) | (with_reducible apply blk_drewN) | (with_reducible apply blk_set) | ((with_reducible apply blk_far2); (focus (first | omega | (simp; done) | (simp; omega))))))); (focus decide))))⟩
    have HR2 : Aside0 (Row 1 3 w5 (.slice A2 1 c2) [[.int .i64 5]]) := ⟨by rw [← hw5]; (repeat (first | (with_reducible exact (HO3.out.below HB4.out)) | (with_reducible apply Row.alloc) | (with_reducible apply Row.drew) | (with_reducible apply Row.drewN) | ((with_reducible apply Row.set2); (focus (repeat (first | (with_reducible exact h41) | (with_reducible apply blk_alloc) | (with_reducible apply blk_drew) | (with_reducible apply blk_drewN) | (with_reducible apply blk_set) | ((with_reducible apply blk_far2); (focus (first | omega | (simp; done) | (simp; omega))))))); (focus decide))))⟩
    have HZ : Aside0 (Below 0 w w5) := ⟨by rw [← hw5]; exact ((HZ3.out.trans (below_zero HB4.out)).setCell (Nat.zero_le _) _).setCell (Nat.zero_le _) _⟩
    have HK : Aside0 (Kept w w5 (fun k => some k = (Value.slice A n c).ownBlock)) := ⟨by rw [← hw5]; exact ((HK3.out.below HB4.out).setCell (.inr (Nat.le_refl _)) _).setCell (.inr (Nat.le_refl _)) _⟩
    rw [hw5]
    clear hw5 h41 h42 hc41 hd41 hc42 hd42 HT4 HB4 h31 h32 h33 hc31 hd31 hc33 hd33 HO3 HZ3 HK3
    have hc51 := fun i => blk_cell h51 i
    have hd51 := fun i => blk_frozen h51 i
    have hc52 := fun i => blk_cell h52 i
    have hd52 := fun i => blk_frozen h52 i
    go_wp2
    rw [rounds_succ]
    go_wp2
    refine bodyPost_ret (results_ct rfl _ _ (w.heap.size + 1) 51 #[.int .i64 1, .int .i64 0, .slice A2 1 c2, .bool false, .int .i64 0, .slice A4 1 c4] (0, 0) _ rfl (by (apply blk_is; (focus (repeat (first | (with_reducible exact h52) | (with_reducible apply blk_alloc) | (with_reducible apply blk_drew) | (with_reducible apply blk_drewN) | (with_reducible apply blk_set) | ((with_reducible apply blk_far2); (focus (first | omega | (simp; done) | (simp; omega))))))); (focus rfl))) Tryz.underlying51 rfl (by kernel_rfl)) rfl ?_
    refine ⟨A2, c2, A4, c4, rfl, ?_, ?_, ?_, ?_⟩
    · (repeat (first | (with_reducible exact HR2.out) | (with_reducible apply Row.alloc) | (with_reducible apply Row.drew) | (with_reducible apply Row.drewN) | ((with_reducible apply Row.set2); (focus (repeat (first | (with_reducible exact h52) | (with_reducible apply blk_alloc) | (with_reducible apply blk_drew) | (with_reducible apply blk_drewN) | (with_reducible apply blk_set) | ((with_reducible apply blk_far2); (focus (first | omega | (simp; done) | (simp; omega))))))); (focus decide))))
    · (repeat (first | (with_reducible exact HR.out) | (with_reducible apply Row.alloc) | (with_reducible apply Row.drew) | (with_reducible apply Row.drewN) | ((with_reducible apply Row.set2); (focus (repeat (first | (with_reducible exact h52) | (with_reducible apply blk_alloc) | (with_reducible apply blk_drew) | (with_reducible apply blk_drewN) | (with_reducible apply blk_set) | ((with_reducible apply blk_far2); (focus (first | omega | (simp; done) | (simp; omega))))))); (focus decide))))
    · exact (((((HZ.out.setCell (Nat.zero_le _) _).setCell (Nat.zero_le _) _).setCell (Nat.zero_le _) _).setCell (Nat.zero_le _) _).setCell (Nat.zero_le _) _).setCell (Nat.zero_le _) _
    · have hg : w.heap.size ≤ w.heap.size + 1 := by omega
      exact (((((HK.out.setCell (.inr hg) _).setCell (.inr hg) _).setCell (.inr hg) _).setCell (.inr hg) _).setCell (.inr hg) _).setCell (.inr hg) _
end Go.Proofs.YtgljebaiakhbfaaGreat.Aw
