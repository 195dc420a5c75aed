/- What this text proves: what objs.Step tells of a counter and an addition; condition: the row. -/
import Derived.Test.YtgljebaiakhbfaaGreatAwPut
namespace Go.Proofs.YtgljebaiakhbfaaGreat.Aw
open Go.RowKit Go.Maps Go.Sort Go.Shelf Go.Proofs Go.Proofs.YtgljebaiakhbfaaGreatW.PrintWords Go.Proofs.YtgljebaiakhbfaaGreatW.PrintLast Go.Proofs.YtgljebaiakhbfaaGreatW.PrintMore
set_option linter.unusedVariables false
set_option maxRecDepth 100000
set_option maxHeartbeats 4000000
theorem int_of_row {k : IntKind} {e : Nat} {w : World} {v : Value} {x : Int} (h : Row 1 e w v [[.int k x]]) : (Kd.int k).R e w 0 (fun _ => True) v [x] := by
  obtain ⟨_, inner, ho, hr⟩ := h
  replace ho : w.ownsRow 0 e 1 v 1 inner := ho
  have hl : inner.length = 1 := ho.1
  have h0 : (inner.drop (0 * 1)).take 1 = [.int k x] ∧ _ := hr.2 0 [.int k x] rfl
  obtain ⟨y, rfl⟩ := List.length_eq_one_iff.1 hl
  have hy : y = .int k x := by
    have := h0.1
    simpa using this
  subst hy
  exact Kd.R_of_own (xs := [x]) ho (fun _ _ => trivial)
theorem row_of_int {k : IntKind} {e : Nat} {w : World} {base : Nat} {ok : Nat → Prop} {v : Value} {x : Int} (h : (Kd.int k).R e w base ok v [x]) : Row 1 e w v [[.int k x]] := by
  obtain ⟨_, inner, ho, hr⟩ := h
  replace ho : w.ownsRow base e 1 v 1 inner := ho
  have hl : inner.length = 1 := ho.1
  have h0 : (inner.drop (0 * 1)).take 1 = [.int k x] := hr.2 0 x rfl
  obtain ⟨y, rfl⟩ := List.length_eq_one_iff.1 hl
  have hy : y = .int k x := by simpa using h0
  subst hy
  exact ⟨fun _ _ => trivial, [.int k x], own_weaken ho (Nat.zero_le _), ⟨rfl, fun j c hj => by
    rcases j with _ | j
    · simp only [List.getElem?_cons_zero, Option.some.injEq] at hj
      subst hj
      refine ⟨rfl, rfl, fun u hu => ?_⟩
      have : u ∈ [Value.int k x] := hu
      rw [List.mem_singleton.1 this]; rfl
    · simp at hj⟩⟩
/-- A world without blocks: what all worlds stand on. -/
def bare (w : World) : World := { w with heap := #[] }
theorem bare_below (w : World) : Below (bare w).heap.size (bare w) w := ⟨rfl, rfl, rfl, Nat.zero_le _, fun k hk => absurd hk (by simp [bare])⟩
theorem bare_zero {w w' : World} {S : Nat → Prop} (h : Below (bare w).heap.size (bare w) w') (k : Kept w w' S) : Below 0 w w' := ⟨h.os, h.tape, h.output, k.1, fun i hi => absurd hi (Nat.not_lt_zero i)⟩
theorem new2 (w : World) (o1 o2 : Obj) : ((w.alloc o1).alloc o2).heap[w.heap.size + 1]? = some o2 := by have := blk_new (w.alloc o1) o2; rwa [World.size_alloc] at this
theorem new3 (w : World) (o1 o2 o3 : Obj) : (((w.alloc o1).alloc o2).alloc o3).heap[w.heap.size + 1 + 1]? = some o3 := by have := blk_new ((w.alloc o1).alloc o2) o3; rwa [World.size_alloc, World.size_alloc] at this
theorem step_calls (A : Option Addr) (n c : Nat) (w : World) (hL : Row 1 3 w (.slice A n c) [[.int .i64 0]]) :
    Calls Tryz.prog 144 #[.agg #[.int .i64 0, .slice A n c, .bool false, .int .i64 0], .agg #[.int .i64 1, .int .i64 5, .int .i64 0]] w fun e w' =>
      ∃ A' c', e = .returned (.tuple #[.agg #[.int .i64 0, .slice A' 1 c', .bool false, .int .i64 0], .int .i64 0]) ∧ Row 1 3 w' (.slice A' 1 c') [[.int .i64 5]] ∧ Below 0 w w' ∧ Kept w w' (fun k => some k = (Value.slice A n c).ownBlock) := by
  have hI := int_of_row hL
  obtain ⟨rfl, hnc, hC⟩ := Kd.R_reads' hI
  have hAlt : ∀ k, (Value.slice A 1 c).ownBlock = some k → k < w.heap.size := Kd.R_lt hI
  have HL := Aside0.mk hI
  have HC := Aside0.mk hC
  clear hL hI hC
  have hmay : QTopForms.objs_May.f 64 0 [0] false 0 = some true := by kernel_rfl
  have hnum : QTopForms.objs_number.f 64 0 [0] false 0 1 5 0 = some (0, [5], false, 0, 0) := by kernel_rfl
  go_enter Tryz.func144, Tryz.ntmps144
  go_upto_region 1 with fail
  obtain ⟨wb, hwb⟩ : ∃ wb, (((w.alloc (.cells #[.int .i64 0, .slice A 1 c, .bool false, .int .i64 0] 36)).alloc (.cells #[.int .i64 1, .int .i64 5, .int .i64 0] 38)).alloc (.cells #[.int .i64 0, .slice none 0 0, .bool false, .int .i64 0] 36)) = wb := ⟨_, rfl⟩
  have h1 : wb.heap[w.heap.size]? = some (.cells #[.int .i64 0, .slice A 1 c, .bool false, .int .i64 0] 36 (0, 0)) := by rw [← hwb]; exact blk_alloc (blk_alloc (blk_new w _) _) _
  have h2 : wb.heap[w.heap.size + 1]? = some (.cells #[.int .i64 1, .int .i64 5, .int .i64 0] 38 (0, 0)) := by rw [← hwb]; exact blk_alloc (new2 w _ _) _
  have h3 : wb.heap[w.heap.size + 1 + 1]? = some (.cells #[.int .i64 0, .slice none 0 0, .bool false, .int .i64 0] 36 (0, 0)) := by rw [← hwb]; exact new3 w _ _ _
  have hBb : Below w.heap.size w wb := by rw [← hwb]; (repeat (first | (with_reducible exact Below.refl _ _) | (with_reducible apply below_alloc) | (with_reducible apply below_drew1) | (with_reducible apply pw_below_drewN)))
  rw [hwb]
  clear hwb
  have HLb := Aside0.mk (Kd.R_below HL.out hBb)
  have HCb := Aside0.mk (Kd.C_below HC.out hBb)
  have HBb := Aside0.mk hBb
  clear HL HC hBb
  have hc1 := fun i => blk_cell h1 i
  have hd1 := fun i => blk_frozen h1 i
  have hc2 := fun i => blk_cell h2 i
  have hd2 := fun i => blk_frozen h2 i
  go_wp2_with (first
    | (go_at_call 21; refine (QTopForms.objs_May.calls 64 0 A c [0] false 0 true _ HCb.out hnc hmay).mono ?_; rintro e w1 ⟨rfl, hb⟩; have h11 := blk_below h1 hb; have h12 := blk_below h2 hb; have h13 := blk_below h3 hb; have hc11 := (fun i => blk_cell h11 i); have hd11 := (fun i => blk_frozen h11 i); have hc12 := (fun i => blk_cell h12 i); have hd12 := (fun i => blk_frozen h12 i); have HLw := Aside0.mk (Kd.R_tight rfl (Kd.R_below HLb.out hb)); have HB1 := Aside0.mk (below_step HBb.out hb); clear hb)
    | (go_at_call 163; refine (QTopForms.objs_number.calls 64 0 _ _ [0] false 0 1 5 0 0 [5] false 0 0 (bare w1) w1 (bare_below w1) HLw.out hnum).mono ?_; rintro e w2 ⟨v1, rfl, ho, hb, hk⟩; obtain ⟨A2, c2, rfl⟩ := Kd.R_slice ho; have HO := Aside0.mk (show Row 1 3 w2 (.slice A2 1 c2) [[.int .i64 5]] from row_of_int ho); have HB2 := Aside0.mk hb; have HK2 := Aside0.mk hk; have h23 := blk_kept h13 hk (fun he => absurd (hAlt _ he.symm) (by omega)); have hc23 := (fun i => blk_cell h23 i); have hd23 := (fun i => blk_frozen h23 i); clear ho hb hk))
  refine bodyPost_ret (results_ct rfl _ _ (w.heap.size + 1 + 1) 36 #[.int .i64 0, .slice A2 1 c2, .bool false, .int .i64 0] (0, 0) _ rfl (by (apply blk_is; (focus (repeat (first | (with_reducible exact h23) | (with_reducible apply blk_alloc) | (with_reducible apply blk_drew) | (with_reducible apply blk_drewN) | (with_reducible apply blk_set) | ((with_reducible apply blk_far2); (focus (first | omega | (simp; done) | (simp; omega))))))); (focus rfl))) Tryz.underlying36 rfl (by kernel_rfl)) rfl ?_
  refine ⟨A2, c2, rfl, ?_, ?_, ?_⟩
  · (repeat (first | (with_reducible exact HO.out) | (with_reducible apply Row.alloc) | (with_reducible apply Row.drew) | (with_reducible apply Row.drewN) | ((with_reducible apply Row.set2); (focus (repeat (first | (with_reducible exact h23) | (with_reducible apply blk_alloc) | (with_reducible apply blk_drew) | (with_reducible apply blk_drewN) | (with_reducible apply blk_set) | ((with_reducible apply blk_far2); (focus (first | omega | (simp; done) | (simp; omega))))))); (focus decide))))
  · have := (below_zero HB1.out).trans (bare_zero HB2.out HK2.out)
    exact (((this.setCell (Nat.zero_le _) _).setCell (Nat.zero_le _) _).setCell (Nat.zero_le _) _).setCell (Nat.zero_le _) _
  · have := (Kept.of_below HB1.out (fun k => some k = (Value.slice A 1 c).ownBlock)).then_ HK2.out (fun k hk => .inl hk)
    have hg : w.heap.size ≤ w.heap.size + 1 + 1 := by omega
    exact (((this.setCell (.inr hg) _).setCell (.inr hg) _).setCell (.inr hg) _).setCell (.inr hg) _
end Go.Proofs.YtgljebaiakhbfaaGreat.Aw
