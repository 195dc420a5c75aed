/- What this text proves: what the store's Base and Now tell at the blocks of one run; condition: the blocks. -/
import Derived.Test.YtgljebaiakhbfaaGreatAwStore
namespace Go.Proofs.YtgljebaiakhbfaaGreat.Aw
open Go.RowKit Go.Maps Go.Sort Go.Shelf Go.Proofs Go.Proofs.YtgljebaiakhbfaaGreatW.PrintWords Go.Proofs.YtgljebaiakhbfaaGreatW.PrintLast Go.Proofs.YtgljebaiakhbfaaGreatW.PrintMore
set_option linter.unusedVariables false
set_option maxRecDepth 100000
set_option maxHeartbeats 2000000
theorem now_calls (s : Nat) (disk kind bases pieces log first synced cur named : Value) (i k : Int) (A : Option Addr) (n c : Nat) (sl : Bool) (t : Int) (B : Option Addr) (m d : Nat) (rs es : List (List Value)) (w : World)
    (hS : StoreAt w s disk kind bases pieces log first synced (.int .i64 i) (.int .i64 k) (.slice A n c) (.bool sl) (.int .i64 t) (.slice B m d) cur named)
    (hL : Row 1 3 w (.slice A n c) rs) (hT : Row 3 182 w (.slice B m d) es) (hrs : rs.length ≤ 1000) (hes : es.length ≤ 1000) (hE : es = [] → Value.slice B m d = .slice none 0 0) :
    Calls Tryz.prog 40 #[.pointer (some ⟨s, 0, none⟩)] w fun e w' => (∃ v, e = .returned v ∧ OwnSnap w.heap.size w' i k sl t rs es v) ∧ Below w.heap.size w w' := by
  have hc := fun i => blk_cell hS i
  have hd := fun i => blk_frozen hS i
  have hlt := blk_lt hS
  have hne : s ≠ w.heap.size := by omega
  have HL := Aside0.mk hL
  have HT := Aside0.mk hT
  have HS := Aside0.mk hS
  clear hL hT hS
  go_enter Tryz.func40, Tryz.ntmps40
  go_wp2_with (go_at_call 86; refine (owned_calls i k A n c sl t B m d rs es _ (HL.out.below (by (repeat (first | (with_reducible exact Below.refl _ _) | (with_reducible apply below_alloc) | (with_reducible apply below_drew1) | (with_reducible apply pw_below_drewN))))) (HT.out.below (by (repeat (first | (with_reducible exact Below.refl _ _) | (with_reducible apply below_alloc) | (with_reducible apply below_drew1) | (with_reducible apply pw_below_drewN))))) hrs hes hE).mono ?_; rintro e w1 ⟨⟨v, rfl, ⟨A1, n1, c1, B1, m1, d1, rfl, ho1, ho2, hz, hf⟩⟩, hb⟩; have HFr := Aside0.mk (fun k hk => Nat.le_trans (by (repeat (first | (with_reducible exact Below.refl _ _) | (with_reducible apply below_alloc) | (with_reducible apply below_drew1) | (with_reducible apply pw_below_drewN))) : Below w.heap.size w _).size (hf k hk)); clear hf; have hG := blk_below (blk_new w _) hb; have hcG := (fun i => blk_cell hG i); have hdG := (fun i => blk_frozen hG i); have HL1 := Aside0.mk ho1; have HT1 := Aside0.mk ho2; have HB := Aside0.mk (below_step (by (repeat (first | (with_reducible exact Below.refl _ _) | (with_reducible apply below_alloc) | (with_reducible apply below_drew1) | (with_reducible apply pw_below_drewN)))) hb : Below w.heap.size w w1); clear ho1 ho2 hb)
  refine bodyPost_ret (results_cell_row rfl _ _ w.heap.size 51 #[.int .i64 i, .int .i64 k, .slice A1 n1 c1, .bool sl, .int .i64 t, .slice B1 m1 d1] (0, 0) _ rfl (by (apply blk_is; (focus (repeat (first | (with_reducible exact hG) | (with_reducible apply blk_alloc) | (with_reducible apply blk_drew) | (with_reducible apply blk_drewN) | (with_reducible apply blk_set) | ((with_reducible apply blk_far2); (focus (first | omega | (simp; done) | (simp; omega))))))); (focus rfl))) Tryz.underlying51 rfl (by kernel_rfl)) rfl ?_
  refine ⟨⟨_, rfl, A1, n1, c1, B1, m1, d1, rfl, ?_, ?_, hz, HFr.out⟩, ?_⟩
  · (repeat (first | (with_reducible exact HL1.out) | (with_reducible apply Row.alloc) | (with_reducible apply Row.drew) | (with_reducible apply Row.drewN) | ((with_reducible apply Row.set2); (focus (repeat (first | (with_reducible exact hG) | (with_reducible apply blk_alloc) | (with_reducible apply blk_drew) | (with_reducible apply blk_drewN) | (with_reducible apply blk_set) | ((with_reducible apply blk_far2); (focus (first | omega | (simp; done) | (simp; omega))))))); (focus decide))))
  · (repeat (first | (with_reducible exact HT1.out) | (with_reducible apply Row.alloc) | (with_reducible apply Row.drew) | (with_reducible apply Row.drewN) | ((with_reducible apply Row.set2); (focus (repeat (first | (with_reducible exact hG) | (with_reducible apply blk_alloc) | (with_reducible apply blk_drew) | (with_reducible apply blk_drewN) | (with_reducible apply blk_set) | ((with_reducible apply blk_far2); (focus (first | omega | (simp; done) | (simp; omega))))))); (focus decide))))
  · repeat (first | (with_reducible exact HB.out) | refine below_set ?_ (by omega))
theorem base_calls (s b : Nat) (disk kind pieces log first synced n0 n1 n2 n3 n4 n5 cur named : Value) (i k : Int) (A : Option Addr) (n c : Nat) (sl : Bool) (t : Int) (B : Option Addr) (m d : Nat) (rs es : List (List Value)) (w : World)
    (hS : StoreAt w s disk kind (.slice (some ⟨b, 0, none⟩) 1 1) pieces log first synced n0 n1 n2 n3 n4 n5 cur named) (hB : SnapAt w b i k A n c sl t B m d)
    (hL : Row 1 3 w (.slice A n c) rs) (hT : Row 3 182 w (.slice B m d) es) (hrs : rs.length ≤ 1000) (hes : es.length ≤ 1000) (hE : es = [] → Value.slice B m d = .slice none 0 0) :
    Calls Tryz.prog 59 #[.pointer (some ⟨s, 0, none⟩)] w fun e w' => (∃ v, e = .returned v ∧ OwnSnap w.heap.size w' i k sl t rs es v) ∧ Below w.heap.size w w' := by
  have hc := fun i => blk_cell hS i
  have hd := fun i => blk_frozen hS i
  have hlt := blk_lt hS
  have hne : s ≠ w.heap.size := by omega
  have HL := Aside0.mk hL
  have HT := Aside0.mk hT
  have HS := Aside0.mk hS
  have HSn := Aside0.mk hB
  clear hL hT hS hB
  go_enter Tryz.func59, Tryz.ntmps59
  go_wp2_with (first
    | (go_at_call 99; refine (last_calls b i k A n c sl t B m d _ (by (repeat (first | (with_reducible exact HSn.out) | (with_reducible apply blk_alloc) | (with_reducible apply blk_drew) | (with_reducible apply blk_drewN) | (with_reducible apply blk_set) | ((with_reducible apply blk_far2); (focus (first | omega | (simp; done) | (simp; omega)))))))).mono ?_; rintro e w0 ⟨rfl, hb⟩; have hG0 := blk_below (blk_new w _) hb; have hcG0 := (fun i => blk_cell hG0 i); have hdG0 := (fun i => blk_frozen hG0 i); have hlt0 := blk_lt hG0; have hne0 := Nat.ne_of_lt hlt0; have HB0 := Aside0.mk (below_step (by (repeat (first | (with_reducible exact Below.refl _ _) | (with_reducible apply below_alloc) | (with_reducible apply below_drew1) | (with_reducible apply pw_below_drewN)))) hb : Below w.heap.size w w0); clear hb)
    | (go_at_call 86; refine (owned_calls i k A n c sl t B m d rs es _ ((HL.out.below HB0.out).below (by (repeat (first | (with_reducible exact Below.refl _ _) | (with_reducible apply below_alloc) | (with_reducible apply below_drew1) | (with_reducible apply pw_below_drewN))))) ((HT.out.below HB0.out).below (by (repeat (first | (with_reducible exact Below.refl _ _) | (with_reducible apply below_alloc) | (with_reducible apply below_drew1) | (with_reducible apply pw_below_drewN))))) hrs hes hE).mono ?_; rintro e w1 ⟨⟨v, rfl, ⟨A1, n1, c1, B1, m1, d1, rfl, ho1, ho2, hz, hf⟩⟩, hb⟩; have HFr := Aside0.mk (fun k hk => Nat.le_trans HB0.out.size (Nat.le_trans (by (repeat (first | (with_reducible exact Below.refl _ _) | (with_reducible apply below_alloc) | (with_reducible apply below_drew1) | (with_reducible apply pw_below_drewN))) : Below w0.heap.size w0 _).size (hf k hk))); clear hf; have hb0 := (below_step (by (repeat (first | (with_reducible exact Below.refl _ _) | (with_reducible apply below_alloc) | (with_reducible apply below_drew1) | (with_reducible apply pw_below_drewN)))) hb : Below w0.heap.size w0 w1); have hG := blk_below hG0 hb0; have hcG := (fun i => blk_cell hG i); have hdG := (fun i => blk_frozen hG i); have HL1 := Aside0.mk ho1; have HT1 := Aside0.mk ho2; have HB := Aside0.mk (below_step HB0.out hb0); clear ho1 ho2 hb hb0))
  refine bodyPost_ret (results_cell_row rfl _ _ w.heap.size 51 #[.int .i64 i, .int .i64 k, .slice A1 n1 c1, .bool sl, .int .i64 t, .slice B1 m1 d1] (0, 0) _ rfl (by (apply blk_is; (focus (repeat (first | (with_reducible exact hG) | (with_reducible apply blk_alloc) | (with_reducible apply blk_drew) | (with_reducible apply blk_drewN) | (with_reducible apply blk_set) | ((with_reducible apply blk_far2); (focus (first | omega | (simp; done) | (simp; omega))))))); (focus rfl))) Tryz.underlying51 rfl (by kernel_rfl)) rfl ?_
  refine ⟨⟨_, rfl, A1, n1, c1, B1, m1, d1, rfl, ?_, ?_, hz, HFr.out⟩, ?_⟩
  · (repeat (first | (with_reducible exact HL1.out) | (with_reducible apply Row.alloc) | (with_reducible apply Row.drew) | (with_reducible apply Row.drewN) | ((with_reducible apply Row.set2); (focus (repeat (first | (with_reducible exact hG) | (with_reducible apply blk_alloc) | (with_reducible apply blk_drew) | (with_reducible apply blk_drewN) | (with_reducible apply blk_set) | ((with_reducible apply blk_far2); (focus (first | omega | (simp; done) | (simp; omega))))))); (focus decide))))
  · (repeat (first | (with_reducible exact HT1.out) | (with_reducible apply Row.alloc) | (with_reducible apply Row.drew) | (with_reducible apply Row.drewN) | ((with_reducible apply Row.set2); (focus (repeat (first | (with_reducible exact hG) | (with_reducible apply blk_alloc) | (with_reducible apply blk_drew) | (with_reducible apply blk_drewN) | (with_reducible apply blk_set) | ((with_reducible apply blk_far2); (focus (first | omega | (simp; done) | (simp; omega))))))); (focus decide))))
  · repeat (first | (with_reducible exact HB.out) | refine below_set ?_ (by omega))
end Go.Proofs.YtgljebaiakhbfaaGreat.Aw
