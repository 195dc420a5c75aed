/- What this text proves: what the store's small functions tell at the blocks of one run; condition: the blocks. -/
import Derived.Test.YtgljebaiakhbfaaGreatAwOwn
import Derived.BigQuiet
import Derived.Deep.RegionWith
namespace Go.Proofs.YtgljebaiakhbfaaGreat.Aw
open Go.RowKit Go.Maps Go.Sort Go.Shelf Go.Proofs Go.Proofs.YtgljebaiakhbfaaGreatW.PrintWords Go.Proofs.YtgljebaiakhbfaaGreatW.PrintLast Go.Proofs.YtgljebaiakhbfaaGreatW.PrintMore
set_option linter.unusedVariables false
set_option maxRecDepth 100000
set_option maxHeartbeats 2000000
theorem on_calls (d : Nat) (a0 a1 a2 a3 a5 a6 : Value) (out : Bool) (w : World) (hD : w.heap[d]? = some (.cells #[a0, a1, a2, a3, .bool out, a5, a6] 108 (0, 0))) :
    Calls Tryz.prog 56 #[.pointer (some ⟨d, 0, none⟩)] w fun e w' => e = .returned (.bool (!out)) ∧ Below w.heap.size w w' := by
  have hc := fun i => blk_cell hD i
  have hd := fun i => blk_frozen hD i
  go_enter Tryz.func56, Tryz.ntmps56
  go_wp2
  go_ret
  exact ⟨rfl, Below.refl _ _⟩
/-- A store's block. -/
abbrev StoreAt (w : World) (s : Nat) (disk kind bases pieces log first synced n0 n1 n2 n3 n4 n5 cur named : Value) : Prop :=
  w.heap[s]? = some (.cells #[disk, kind, bases, pieces, log, first, synced, n0, n1, n2, n3, n4, n5, cur, named] 115 (0, 0))
theorem next_calls (s n : Nat) (c : Nat) (A : Option Addr) (f : Int) (disk kind bases pieces synced n0 n1 n2 n3 n4 n5 cur named : Value) (w : World)
    (hS : StoreAt w s disk kind bases pieces (.slice A n c) (.int .i64 f) synced n0 n1 n2 n3 n4 n5 cur named) :
    Calls Tryz.prog 60 #[.pointer (some ⟨s, 0, none⟩)] w fun e w' => e = .returned (.int .i64 (wrap64 (f + n))) ∧ Below w.heap.size w w' := by
  have hc := fun i => blk_cell hS i
  have hd := fun i => blk_frozen hS i
  go_enter Tryz.func60, Tryz.ntmps60
  go_wp2
  go_quiet (fail)
  go_wp2
  go_ret
  exact ⟨by simp, pw_below_drewN (Below.refl _ _) _⟩
/-- A snapshot as a value. -/
abbrev snapV (i k : Int) (A : Option Addr) (n c : Nat) (s : Bool) (t : Int) (B : Option Addr) (m d : Nat) : Value := .agg #[.int .i64 i, .int .i64 k, .slice A n c, .bool s, .int .i64 t, .slice B m d]
abbrev SnapAt (w : World) (b : Nat) (i k : Int) (A : Option Addr) (n c : Nat) (s : Bool) (t : Int) (B : Option Addr) (m d : Nat) : Prop :=
  w.heap[b]? = some (.cells #[.int .i64 i, .int .i64 k, .slice A n c, .bool s, .int .i64 t, .slice B m d] 51 (0, 0))
theorem last_calls (b : Nat) (i k : Int) (A : Option Addr) (n c : Nat) (s : Bool) (t : Int) (B : Option Addr) (m d : Nat) (w : World) (hB : SnapAt w b i k A n c s t B m d) :
    Calls Tryz.prog 99 #[.slice (some ⟨b, 0, none⟩) 1 1] w fun e w' => e = .returned (.tuple #[snapV i k A n c s t B m d, .bool true]) ∧ Below w.heap.size w w' := by
  have hc := fun i => blk_cell hB i
  have hd := fun i => blk_frozen hB i
  have hlt := blk_lt hB
  have hne : b ≠ w.heap.size := by omega
  go_enter Tryz.func99, Tryz.ntmps99
  go_wp2
  refine bodyPost_ret (results_ct rfl _ _ w.heap.size 51 _ (0, 0) _ rfl (blk_new w _) Tryz.underlying51 rfl (by kernel_rfl)) rfl ?_
  exact ⟨rfl, below_alloc (Below.refl _ _) _⟩
/-- What owned tells: the same with rows of its own. -/
abbrev OwnSnap (base : Nat) (w' : World) (i k : Int) (s : Bool) (t : Int) (rs es : List (List Value)) (v : Value) : Prop :=
  ∃ A n c B m d, v = snapV i k A n c s t B m d ∧ Row 1 3 w' (.slice A n c) rs ∧ Row 3 182 w' (.slice B m d) es ∧ (es = [] → Value.slice B m d = .slice none 0 0) ∧ (∀ k, (Value.slice A n c).ownBlock = some k → base ≤ k)
theorem owned_calls (i k : Int) (A : Option Addr) (n c : Nat) (s : Bool) (t : Int) (B : Option Addr) (m d : Nat) (rs es : List (List Value)) (w : World)
    (hL : Row 1 3 w (.slice A n c) rs) (hT : Row 3 182 w (.slice B m d) es) (hrs : rs.length ≤ 1000) (hes : es.length ≤ 1000) (hE : es = [] → Value.slice B m d = .slice none 0 0) :
    Calls Tryz.prog 86 #[snapV i k A n c s t B m d] w fun e w' => (∃ v, e = .returned v ∧ OwnSnap w.heap.size w' i k s t rs es v) ∧ Below w.heap.size w w' := by
  have HL := Aside0.mk hL
  have HT := Aside0.mk hT
  clear hL hT
  go_enter Tryz.func86, Tryz.ntmps86
  go_wp2
  obtain ⟨wb, hwb⟩ : ∃ wb, ((w.alloc (.cells #[.int .i64 i, .int .i64 k, .slice A n c, .bool s, .int .i64 t, .slice B m d] 51)).alloc (.cells #[.int .i64 0, .int .i64 0, .slice none 0 0, .bool false, .int .i64 0, .slice none 0 0] 51)) = wb := ⟨_, rfl⟩
  have hG1 : wb.heap[w.heap.size]? = some (.cells #[.int .i64 i, .int .i64 k, .slice A n c, .bool s, .int .i64 t, .slice B m d] 51 (0, 0)) := by rw [← hwb]; exact blk_alloc (blk_new w _) _
  have hG2 : wb.heap[w.heap.size + 1]? = some (.cells #[.int .i64 0, .int .i64 0, .slice none 0 0, .bool false, .int .i64 0, .slice none 0 0] 51 (0, 0)) := by rw [← hwb]; have := blk_new (w.alloc (.cells #[.int .i64 i, .int .i64 k, .slice A n c, .bool s, .int .i64 t, .slice B m d] 51)) (.cells #[.int .i64 0, .int .i64 0, .slice none 0 0, .bool false, .int .i64 0, .slice none 0 0] 51); rwa [World.size_alloc] at this
  have hBw : Below w.heap.size w wb := by rw [← hwb]; exact below_alloc (below_alloc (Below.refl _ _) _) _
  rw [hwb]
  clear hwb
  have HLb := Aside0.mk (HL.out.below hBw)
  have HTb := Aside0.mk (HT.out.below hBw)
  have HBw := Aside0.mk hBw
  clear HL HT hBw
  have hc := fun i => blk_cell hG1 i
  have hd := fun i => blk_frozen hG1 i
  go_region_with (first
    | (go_at_call 125; refine (clone_int _ rs _ (HLb.out.below (by (repeat (first | exact Below.refl _ _ | apply below_drew1 | apply pw_below_drewN)))) hrs).mono ?_; rintro e w1 ⟨v1, rfl, ho, hb, hf⟩; replace hb := below_step (w := wb) (by (repeat (first | exact Below.refl _ _ | apply below_drew1 | apply pw_below_drewN))) hb; obtain ⟨A1, c1, rfl⟩ := Kd.R_slice ho; have HFr := Aside0.mk (fun k hk => Nat.le_trans (Nat.le_trans HBw.out.size (by (repeat (first | exact Below.refl _ _ | apply below_drew1 | apply pw_below_drewN)) : Below wb.heap.size wb _).size) (hf k hk)); clear hf; have HL1 := Aside0.mk ho; have HB1 := Aside0.mk hb; have hG11 := blk_below hG1 hb; have hG21 := blk_below hG2 hb; have hc1 := (fun i => blk_cell hG11 i); have hd1 := (fun i => blk_frozen hG11 i); clear ho hb)
    | (go_at_call 126; refine (clone_entry _ es _ ((HTb.out.below HB1.out).below (by (repeat (first | exact Below.refl _ _ | apply below_drew1 | apply pw_below_drewN)))) hes).mono ?_; rintro e w2 ⟨v2, rfl, ho, hb, hz⟩; replace hb := below_step (w := w1) (by (repeat (first | exact Below.refl _ _ | apply below_drew1 | apply pw_below_drewN))) hb; obtain ⟨A2, c2, rfl⟩ := Kd.R_slice ho; have HT1 := Aside0.mk ho; have HZ := Aside0.mk hz; clear hz; have HB2 := Aside0.mk hb; have hG12 := blk_below hG11 hb; have hG22 := blk_below hG21 hb; have hc2 := (fun i => blk_cell hG12 i); have hd2 := (fun i => blk_frozen hG12 i);  clear ho hb))
  all_goals
    obtain ⟨w3, hw3⟩ : ∃ w3, ((w2.setCell ⟨w.heap.size, 2, none⟩ (.slice A1 rs.length c1)).setCell ⟨w.heap.size, 5, none⟩ (.slice A2 es.length c2)) = w3 := ⟨_, rfl⟩
    have hG13 : w3.heap[w.heap.size]? = some (.cells #[.int .i64 i, .int .i64 k, .slice A1 rs.length c1, .bool s, .int .i64 t, .slice A2 es.length c2] 51 (0, 0)) := by rw [← hw3]; (apply blk_is; (focus (repeat (first | (with_reducible exact hG12) | (with_reducible apply blk_alloc) | (with_reducible apply blk_drew) | (with_reducible apply blk_drewN) | (with_reducible apply blk_set) | ((with_reducible apply blk_far2); (focus (first | omega | (simp; done) | (simp; omega))))))); (focus rfl))
    have hG23 : w3.heap[w.heap.size + 1]? = some (.cells #[.int .i64 0, .int .i64 0, .slice none 0 0, .bool false, .int .i64 0, .slice none 0 0] 51 (0, 0)) := by rw [← hw3]; (apply blk_is; (focus (repeat (first | (with_reducible exact hG22) | (with_reducible apply blk_alloc) | (with_reducible apply blk_drew) | (with_reducible apply blk_drewN) | (with_reducible apply blk_set) | ((with_reducible apply blk_far2); (focus (first | omega | (simp; done) | (simp; omega))))))); (focus rfl))
    have hB3 : Below w.heap.size w w3 := by rw [← hw3]; exact below_set (below_set (below_step (below_step HBw.out HB1.out) HB2.out) (Nat.le_refl _)) (Nat.le_refl _)
    have hL3 : Row 1 3 w3 (.slice A1 rs.length c1) rs := by rw [← hw3]; (repeat (first | (with_reducible exact (HL1.out.below HB2.out)) | (with_reducible apply Row.alloc) | (with_reducible apply Row.drew) | (with_reducible apply Row.drewN) | ((with_reducible apply Row.set2); (focus (repeat (first | (with_reducible exact hG12) | (with_reducible apply blk_alloc) | (with_reducible apply blk_drew) | (with_reducible apply blk_drewN) | (with_reducible apply blk_set) | ((with_reducible apply blk_far2); (focus (first | omega | (simp; done) | (simp; omega))))))); (focus decide))))
    have hT3 : Row 3 182 w3 (.slice A2 es.length c2) es := by rw [← hw3]; (repeat (first | (with_reducible exact HT1.out) | (with_reducible apply Row.alloc) | (with_reducible apply Row.drew) | (with_reducible apply Row.drewN) | ((with_reducible apply Row.set2); (focus (repeat (first | (with_reducible exact hG12) | (with_reducible apply blk_alloc) | (with_reducible apply blk_drew) | (with_reducible apply blk_drewN) | (with_reducible apply blk_set) | ((with_reducible apply blk_far2); (focus (first | omega | (simp; done) | (simp; omega))))))); (focus decide))))
    rw [hw3]
    clear hw3
    have hc3 := fun i => blk_cell hG13 i
    have hc4 := fun i => blk_cell hG23 i
    have hd3 := fun i => blk_frozen hG23 i
    have hn3 : w.heap.size ≠ w.heap.size + 1 := by omega
    have HF := Aside0.mk (And.intro hB3 (And.intro hL3 hT3))
    clear HLb HTb HBw HL1 HB1 HT1 HB2 hB3 hL3 hT3 hG12 hG22 hG11 hG21 hG1 hG2 hc hd hc1 hd1 hc2 hd2
    go_wp2
    refine bodyPost_ret (results_cell_row rfl _ _ (w.heap.size + 1) 51 #[.int .i64 i, .int .i64 k, .slice A1 rs.length c1, .bool s, .int .i64 t, .slice A2 es.length c2] (0, 0) _ rfl (by (apply blk_is; (focus (repeat (first | (with_reducible exact hG23) | (with_reducible apply blk_alloc) | (with_reducible apply blk_drew) | (with_reducible apply blk_drewN) | (with_reducible apply blk_set) | ((with_reducible apply blk_far2); (focus (first | omega | (simp; done) | (simp; omega))))))); (focus rfl))) Tryz.underlying51 rfl (by kernel_rfl)) rfl ?_
    refine ⟨⟨_, rfl, A1, rs.length, c1, A2, es.length, c2, rfl, ?_, ?_, fun h => HZ.out (hE h), HFr.out⟩, ?_⟩
    · (repeat (first | (with_reducible exact HF.out.2.1) | (with_reducible apply Row.alloc) | (with_reducible apply Row.drew) | (with_reducible apply Row.drewN) | ((with_reducible apply Row.set2); (focus (repeat (first | (with_reducible exact hG23) | (with_reducible apply blk_alloc) | (with_reducible apply blk_drew) | (with_reducible apply blk_drewN) | (with_reducible apply blk_set) | ((with_reducible apply blk_far2); (focus (first | omega | (simp; done) | (simp; omega))))))); (focus decide))))
    · (repeat (first | (with_reducible exact HF.out.2.2) | (with_reducible apply Row.alloc) | (with_reducible apply Row.drew) | (with_reducible apply Row.drewN) | ((with_reducible apply Row.set2); (focus (repeat (first | (with_reducible exact hG23) | (with_reducible apply blk_alloc) | (with_reducible apply blk_drew) | (with_reducible apply blk_drewN) | (with_reducible apply blk_set) | ((with_reducible apply blk_far2); (focus (first | omega | (simp; done) | (simp; omega))))))); (focus decide))))
    · repeat (first | (with_reducible exact HF.out.1) | refine below_set ?_ (by omega))
end Go.Proofs.YtgljebaiakhbfaaGreat.Aw
