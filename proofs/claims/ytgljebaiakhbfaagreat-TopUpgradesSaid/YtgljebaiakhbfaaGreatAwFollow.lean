/- What this text proves: what objs.Step tells of a counter and an addition; condition: the row. what snapshot.Note and Take tell of a first record; condition: the rows. what snapshot.Take tells of no record and of a first record; condition: the rows. what the store's follow does at a disk that has no files; condition: the blocks. -/
import Derived.Test.YtgljebaiakhbfaaGreatAwPut
import Derived.Test.YtgljebaiakhbfaaGreatAwObjs
import Derived.BigQuiet
import Derived.Deep.RegionWith
import Derived.Deep.DeepCutAuto
import Derived.Deep.RegionHeld3
import Derived.Deep.DrawnRows
namespace Go.Proofs.YtgljebaiakhbfaaGreat.Aw
open Go.RowKit Go.Maps Go.Sort Go.Shelf Go.Proofs Go.Proofs.YtgljebaiakhbfaaGreatW.PrintWords Go.Proofs.YtgljebaiakhbfaaGreatW.PrintLast Go.Proofs.YtgljebaiakhbfaaGreatW.PrintMore
set_option linter.unusedVariables false
set_option maxRecDepth 100000
set_option maxHeartbeats 4000000
theorem int_of_row {k : IntKind} {e : Nat} {w : World} {v : Value} {x : Int} (h : Row 1 e w v [[.int k x]]) : (Kd.int k).R e w 0 (fun _ => True) v [x] := by
  obtain ⟨_, inner, ho, hr⟩ := h
  replace ho : w.ownsRow 0 e 1 v 1 inner := ho
  have hl : inner.length = 1 := ho.1
  have h0 : (inner.drop (0 * 1)).take 1 = [.int k x] ∧ _ := hr.2 0 [.int k x] rfl
  obtain ⟨y, rfl⟩ := List.length_eq_one_iff.1 hl
  have hy : y = .int k x := by
    have := h0.1
    simpa using this
  subst hy
  exact Kd.R_of_own (xs := [x]) ho (fun _ _ => trivial)
theorem row_of_int {k : IntKind} {e : Nat} {w : World} {base : Nat} {ok : Nat → Prop} {v : Value} {x : Int} (h : (Kd.int k).R e w base ok v [x]) : Row 1 e w v [[.int k x]] := by
  obtain ⟨_, inner, ho, hr⟩ := h
  replace ho : w.ownsRow base e 1 v 1 inner := ho
  have hl : inner.length = 1 := ho.1
  have h0 : (inner.drop (0 * 1)).take 1 = [.int k x] := hr.2 0 x rfl
  obtain ⟨y, rfl⟩ := List.length_eq_one_iff.1 hl
  have hy : y = .int k x := by simpa using h0
  subst hy
  exact ⟨fun _ _ => trivial, [.int k x], own_weaken ho (Nat.zero_le _), ⟨rfl, fun j c hj => by
    rcases j with _ | j
    · simp only [List.getElem?_cons_zero, Option.some.injEq] at hj
      subst hj
      refine ⟨rfl, rfl, fun u hu => ?_⟩
      have : u ∈ [Value.int k x] := hu
      rw [List.mem_singleton.1 this]; rfl
    · simp at hj⟩⟩
/-- A world without blocks: what all worlds stand on. -/
def bare (w : World) : World := { w with heap := #[] }
theorem bare_below (w : World) : Below (bare w).heap.size (bare w) w := ⟨rfl, rfl, rfl, Nat.zero_le _, fun k hk => absurd hk (by simp [bare])⟩
theorem bare_zero {w w' : World} {S : Nat → Prop} (h : Below (bare w).heap.size (bare w) w') (k : Kept w w' S) : Below 0 w w' := ⟨h.os, h.tape, h.output, k.1, fun i hi => absurd hi (Nat.not_lt_zero i)⟩
theorem new2 (w : World) (o1 o2 : Obj) : ((w.alloc o1).alloc o2).heap[w.heap.size + 1]? = some o2 := by have := blk_new (w.alloc o1) o2; rwa [World.size_alloc] at this
theorem new3 (w : World) (o1 o2 o3 : Obj) : (((w.alloc o1).alloc o2).alloc o3).heap[w.heap.size + 1 + 1]? = some o3 := by have := blk_new ((w.alloc o1).alloc o2) o3; rwa [World.size_alloc, World.size_alloc] at this
theorem step_calls (A : Option Addr) (n c : Nat) (w : World) (hL : Row 1 3 w (.slice A n c) [[.int .i64 0]]) :
    Calls Tryz.prog 144 #[.agg #[.int .i64 0, .slice A n c, .bool false, .int .i64 0], .agg #[.int .i64 1, .int .i64 5, .int .i64 0]] w fun e w' =>
      ∃ A' c', e = .returned (.tuple #[.agg #[.int .i64 0, .slice A' 1 c', .bool false, .int .i64 0], .int .i64 0]) ∧ Row 1 3 w' (.slice A' 1 c') [[.int .i64 5]] ∧ Below 0 w w' ∧ Kept w w' (fun k => some k = (Value.slice A n c).ownBlock) := by
  have hI := int_of_row hL
  obtain ⟨rfl, hnc, hC⟩ := Kd.R_reads' hI
  have hAlt : ∀ k, (Value.slice A 1 c).ownBlock = some k → k < w.heap.size := Kd.R_lt hI
  have HL := Aside0.mk hI
  have HC := Aside0.mk hC
  clear hL hI hC
  go_enter Tryz.func144, Tryz.ntmps144
  go_upto_region 1 with fail
  obtain ⟨wb, hwb⟩ : ∃ wb, (((w.alloc (.cells #[.int .i64 0, .slice A 1 c, .bool false, .int .i64 0] 36)).alloc (.cells #[.int .i64 1, .int .i64 5, .int .i64 0] 38)).alloc (.cells #[.int .i64 0, .slice none 0 0, .bool false, .int .i64 0] 36)) = wb := ⟨_, rfl⟩
  have h1 : wb.heap[w.heap.size]? = some (.cells #[.int .i64 0, .slice A 1 c, .bool false, .int .i64 0] 36 (0, 0)) := by rw [← hwb]; exact blk_alloc (blk_alloc (blk_new w _) _) _
  have h2 : wb.heap[w.heap.size + 1]? = some (.cells #[.int .i64 1, .int .i64 5, .int .i64 0] 38 (0, 0)) := by rw [← hwb]; exact blk_alloc (new2 w _ _) _
  have h3 : wb.heap[w.heap.size + 1 + 1]? = some (.cells #[.int .i64 0, .slice none 0 0, .bool false, .int .i64 0] 36 (0, 0)) := by rw [← hwb]; exact new3 w _ _ _
  have hBb : Below w.heap.size w wb := by rw [← hwb]; (repeat (first | (with_reducible exact Below.refl _ _) | (with_reducible apply below_alloc) | (with_reducible apply below_drew1) | (with_reducible apply pw_below_drewN)))
  rw [hwb]
  clear hwb
  have HLb := Aside0.mk (Kd.R_below HL.out hBb)
  have HCb := Aside0.mk (Kd.C_below HC.out hBb)
  have HBb := Aside0.mk hBb
  clear HL HC hBb
  have hc1 := fun i => blk_cell h1 i
  have hd1 := fun i => blk_frozen h1 i
  have hc2 := fun i => blk_cell h2 i
  have hd2 := fun i => blk_frozen h2 i
  go_wp2_with (first
    | (go_at_call 21; refine (may_calls A c _ HCb.out hnc).mono ?_; rintro e w1 ⟨rfl, hb⟩; have h11 := blk_below h1 hb; have h12 := blk_below h2 hb; have h13 := blk_below h3 hb; have hc11 := (fun i => blk_cell h11 i); have hd11 := (fun i => blk_frozen h11 i); have hc12 := (fun i => blk_cell h12 i); have hd12 := (fun i => blk_frozen h12 i); have HLw := Aside0.mk (Kd.R_tight rfl (Kd.R_below HLb.out hb)); have HB1 := Aside0.mk (below_step HBb.out hb); clear hb)
    | (go_at_call 163; refine (number_calls _ _ (bare w1) w1 (bare_below w1) HLw.out).mono ?_; rintro e w2 ⟨v1, rfl, ho, hb, hk⟩; obtain ⟨A2, c2, rfl⟩ := Kd.R_slice ho; have HO := Aside0.mk (show Row 1 3 w2 (.slice A2 1 c2) [[.int .i64 5]] from row_of_int ho); have HB2 := Aside0.mk hb; have HK2 := Aside0.mk hk; have h23 := blk_kept h13 hk (fun he => absurd (hAlt _ he.symm) (by omega)); have hc23 := (fun i => blk_cell h23 i); have hd23 := (fun i => blk_frozen h23 i); clear ho hb hk))
  refine bodyPost_ret (results_ct rfl _ _ (w.heap.size + 1 + 1) 36 #[.int .i64 0, .slice A2 1 c2, .bool false, .int .i64 0] (0, 0) _ rfl (by (apply blk_is; (focus (repeat (first | (with_reducible exact h23) | (with_reducible apply blk_alloc) | (with_reducible apply blk_drew) | (with_reducible apply blk_drewN) | (with_reducible apply blk_set) | ((with_reducible apply blk_far2); (focus (first | omega | (simp; done) | (simp; omega))))))); (focus rfl))) Tryz.underlying36 rfl (by kernel_rfl)) rfl ?_
  refine ⟨A2, c2, rfl, ?_, ?_, ?_⟩
  · (repeat (first | (with_reducible exact HO.out) | (with_reducible apply Row.alloc) | (with_reducible apply Row.drew) | (with_reducible apply Row.drewN) | ((with_reducible apply Row.set2); (focus (repeat (first | (with_reducible exact h23) | (with_reducible apply blk_alloc) | (with_reducible apply blk_drew) | (with_reducible apply blk_drewN) | (with_reducible apply blk_set) | ((with_reducible apply blk_far2); (focus (first | omega | (simp; done) | (simp; omega))))))); (focus decide))))
  · have := (below_zero HB1.out).trans (bare_zero HB2.out HK2.out)
    exact (((this.setCell (Nat.zero_le _) _).setCell (Nat.zero_le _) _).setCell (Nat.zero_le _) _).setCell (Nat.zero_le _) _
  · have := (Kept.of_below HB1.out (fun k => some k = (Value.slice A 1 c).ownBlock)).then_ HK2.out (fun k hk => .inl hk)
    have hg : w.heap.size ≤ w.heap.size + 1 + 1 := by omega
    exact (((this.setCell (.inr hg) _).setCell (.inr hg) _).setCell (.inr hg) _).setCell (.inr hg) _
end Go.Proofs.YtgljebaiakhbfaaGreat.Aw
namespace Go.Proofs.YtgljebaiakhbfaaGreat.Aw
open Go.RowKit Go.Maps Go.Sort Go.Shelf Go.Proofs Go.Proofs.YtgljebaiakhbfaaGreatW.PrintWords Go.Proofs.YtgljebaiakhbfaaGreatW.PrintLast Go.Proofs.YtgljebaiakhbfaaGreatW.PrintMore
set_option linter.unusedVariables false
set_option maxRecDepth 100000
set_option maxHeartbeats 4000000
theorem indexE (fv : Value) (w : World) : Calls Tryz.prog 169 #[.slice none 0 0, fv] w fun e w' => e = .returned (.int .i64 (-1)) ∧ w = w' := by
  go_enter Tryz.func169, Tryz.ntmps169
  go_wp2
  refine wp_loop_rounds 1 ?_
  repeat any_goals (rw [rounds_succ]; go_wp2)
  go_ret
  exact ⟨rfl, rfl⟩
theorem deleteE (fv : Value) (w : World) : Calls Tryz.prog 167 #[.slice none 0 0, fv] w fun e w' => e = .returned (.slice none 0 0) ∧ w = w' := by
  go_enter Tryz.func167, Tryz.ntmps167
  go_wp2_with (go_at_call 169; refine (indexE _ _).mono ?_; rintro e w' ⟨rfl, rfl⟩)
  go_ret
  exact ⟨rfl, rfl⟩
theorem insertE (A0 : Option Addr) (c0 : Nat) (row : List Value) (w : World) (hC : (Kd.raw 3).C w A0 1 [row]) :
    Calls Tryz.prog 171 #[.slice none 0 0, .int .i64 0, .slice A0 1 c0] w fun e w' => ∃ A c, e = .returned (.slice A 1 c) ∧ Row 3 182 w' (.slice A 1 c) [row] ∧ Below w.heap.size w w' := by
  have HC := Aside0.mk hC
  clear hC
  go_enter Tryz.func171, Tryz.ntmps171
  go_wp2_with (first
    | ((with_reducible refine gate_builtin (b := .append) (xs := #[.tmp 23, .tmp 24]) rfl ?_); at_builtin; refine nil_append_rows (sz := 3) (e := 182) rfl (.tmp 23) (.tmp 24) 49 (.agg #[.int .i64 0, .int .i64 0, .int .i64 0]) 24 rfl Tryz.underlying49 infoE rfl (by decide) (by decide) A0 1 c0 [row] HC.out rfl rfl (by omega) ?_; intro A3 c3 wf ho hb; have HO := Aside0.mk ho; have HB := Aside0.mk hb; clear ho hb))
  go_ret
  exact ⟨A3, c3, rfl, HO.out, HB.out⟩
/-- A block as a row of one. -/
theorem lit_C {sz e g : Nat} {w : World} {row : List Value} (h : w.heap[g]? = some (.cells row.toArray e (0, 0))) (hl : row.length = sz) (ho : ∀ u ∈ row, u.oneCell' = true) : (Kd.raw sz).C w (some ⟨g, 0, none⟩) 1 [row] := by
  refine ⟨rfl, by omega, fun _ => ⟨⟨g, 0, none⟩, rfl, fun j p hj => ⟨row, hl, ?_, fun i u hu => ?_⟩⟩⟩
  · rcases j with _ | j
    · simp only [List.getElem?_cons_zero, Option.some.injEq] at hj
      subst hj
      exact ⟨rfl, hl, ho⟩
    · simp at hj
  · rcases j with _ | j
    · have := blk_cell h i
      rw [List.getElem?_toArray, hu] at this
      rcases i with _ | i
      · simpa [Addr.add] using this
      · simpa [Addr.add] using this
    · simp at hj
theorem note_calls (w : World) :
    Calls Tryz.prog 145 #[.slice none 0 0, .agg #[.int .i64 0, .int .i64 0, .int .i64 1, .int .i64 1, .int .i64 5, .int .i64 0, .int .i64 0]] w fun e w' => ∃ A c, e = .returned (.slice A 1 c) ∧ Row 3 182 w' (.slice A 1 c) [[.int .i64 0, .int .i64 1, .int .i64 0]] ∧ Below w.heap.size w w' := by
  go_enter Tryz.func145, Tryz.ntmps145
  go_wp2_with (first
    | (go_at_call 126; refine (clone_entry _ [] _ (Row.nil _ _ _) (by decide)).mono ?_; rintro e w1 ⟨v1, rfl, ho, hb, hz⟩; obtain rfl := hz rfl; have h11 := blk_below (blk_new w _) hb; have hc1 := (fun i => blk_cell h11 i); have hd1 := (fun i => blk_frozen h11 i); have HB1 := Aside0.mk (below_step (by (repeat (first | (with_reducible exact Below.refl _ _) | (with_reducible apply below_alloc) | (with_reducible apply below_drew1) | (with_reducible apply pw_below_drewN)))) hb : Below w.heap.size w w1); clear ho hb hz)
    | (go_at_call 167; refine (deleteE _ _).mono ?_; rintro e w2 ⟨rfl, rfl⟩)
    | (go_at_call 169; refine (indexE _ _).mono ?_; rintro e w2 ⟨rfl, rfl⟩)
    | (go_at_call 171; refine (insertE _ _ [.int .i64 0, .int .i64 1, .int .i64 0] _ (lit_C (row := [.int .i64 0, .int .i64 1, .int .i64 0]) (e := 182) (blk_new w1 _) rfl (by decide))).mono ?_; rintro e w3 ⟨A3, c3, rfl, ho, hb⟩; have HO := Aside0.mk ho; have HB3 := Aside0.mk (below_step HB1.out (below_step (by (repeat (first | (with_reducible exact Below.refl _ _) | (with_reducible apply below_alloc) | (with_reducible apply below_drew1) | (with_reducible apply pw_below_drewN)))) hb)); clear ho hb))
  go_ret
  exact ⟨A3, c3, rfl, HO.out, HB3.out⟩
end Go.Proofs.YtgljebaiakhbfaaGreat.Aw
namespace Go.Proofs.YtgljebaiakhbfaaGreat.Aw
open Go.RowKit Go.Maps Go.Sort Go.Shelf Go.Proofs Go.Proofs.YtgljebaiakhbfaaGreatW.PrintWords Go.Proofs.YtgljebaiakhbfaaGreatW.PrintLast Go.Proofs.YtgljebaiakhbfaaGreatW.PrintMore
set_option linter.unusedVariables false
set_option maxRecDepth 100000
set_option maxHeartbeats 4000000
theorem take0 (i k : Int) (A : Option Addr) (n c : Nat) (s : Bool) (t : Int) (B : Option Addr) (m d : Nat) (A0 : Option Addr) (c0 : Nat) (w : World) :
    Calls Tryz.prog 98 #[snapV i k A n c s t B m d, .slice A0 0 c0] w fun e w' => e = .returned (.tuple #[snapV i k A n c s t B m d, .int .i64 0]) ∧ Below w.heap.size w w' := by
  go_enter Tryz.func98, Tryz.ntmps98
  go_wp2
  refine wp_loop_rounds 1 ?_
  rw [rounds_succ]
  go_wp2
  refine bodyPost_ret (results_ct rfl _ _ (w.heap.size + 1) 51 _ (0, 0) _ rfl (new2 w _ _) Tryz.underlying51 rfl (by kernel_rfl)) rfl ?_
  exact ⟨rfl, by (repeat (first | (with_reducible exact Below.refl _ _) | (with_reducible apply below_alloc) | (with_reducible apply below_drew1) | (with_reducible apply pw_below_drewN)))⟩
theorem take1 (A : Option Addr) (n c : Nat) (b : Nat) (w : World) (hL : Row 1 3 w (.slice A n c) [[.int .i64 0]])
    (hb : w.heap[b]? = some (.cells #[.int .i64 0, .int .i64 0, .int .i64 1, .int .i64 1, .int .i64 5, .int .i64 0, .int .i64 0] 62 (0, 0))) :
    Calls Tryz.prog 98 #[snapV 0 0 A n c false 0 none 0 0, .slice (some ⟨b, 0, none⟩) 1 1] w fun e w' =>
      ∃ A' c' B' d', e = .returned (.tuple #[snapV 1 0 A' 1 c' false 0 B' 1 d', .int .i64 0]) ∧ Row 1 3 w' (.slice A' 1 c') [[.int .i64 5]] ∧ Row 3 182 w' (.slice B' 1 d') [[.int .i64 0, .int .i64 1, .int .i64 0]] ∧
        Below 0 w w' ∧ Kept w w' (fun k => some k = (Value.slice A n c).ownBlock) := by
  have hc := fun i => blk_cell hb i
  have hd := fun i => blk_frozen hb i
  have hlt := blk_lt hb
  have hne := Nat.ne_of_lt hlt
  have HL := Aside0.mk hL
  clear hL
  go_enter Tryz.func98, Tryz.ntmps98
  go_wp2
  refine wp_loop_rounds 2 ?_
  rw [rounds_succ]
  go_upto_region 4 with fail
  obtain ⟨wb, hwb⟩ : ∃ wb, (((w.alloc (.cells #[.int .i64 0, .int .i64 0, .slice A n c, .bool false, .int .i64 0, .slice none 0 0] 51)).alloc (.cells #[.int .i64 0, .int .i64 0, .slice none 0 0, .bool false, .int .i64 0, .slice none 0 0] 51)).alloc (.cells #[.int .i64 0, .int .i64 0, .int .i64 1, .int .i64 1, .int .i64 5, .int .i64 0, .int .i64 0] 62)) = wb := ⟨_, rfl⟩
  have h1 : wb.heap[w.heap.size]? = some (.cells #[.int .i64 0, .int .i64 0, .slice A n c, .bool false, .int .i64 0, .slice none 0 0] 51 (0, 0)) := by rw [← hwb]; exact blk_alloc (blk_alloc (blk_new w _) _) _
  have h2 : wb.heap[w.heap.size + 1]? = some (.cells #[.int .i64 0, .int .i64 0, .slice none 0 0, .bool false, .int .i64 0, .slice none 0 0] 51 (0, 0)) := by rw [← hwb]; exact blk_alloc (new2 w _ _) _
  have h3 : wb.heap[w.heap.size + 1 + 1]? = some (.cells #[.int .i64 0, .int .i64 0, .int .i64 1, .int .i64 1, .int .i64 5, .int .i64 0, .int .i64 0] 62 (0, 0)) := by rw [← hwb]; exact new3 w _ _ _
  have hBb : Below w.heap.size w wb := by rw [← hwb]; (repeat (first | (with_reducible exact Below.refl _ _) | (with_reducible apply below_alloc) | (with_reducible apply below_drew1) | (with_reducible apply pw_below_drewN)))
  rw [hwb]
  clear hwb
  have hAlt : ∀ k, (Value.slice A n c).ownBlock = some k → k < w.heap.size := Kd.R_lt HL.out
  have HLb := Aside0.mk (HL.out.below hBb)
  have HBb := Aside0.mk hBb
  clear HL hBb hc hd hb hlt hne
  have hc1 := fun i => blk_cell h1 i
  have hd1 := fun i => blk_frozen h1 i
  have hc3 := fun i => blk_cell h3 i
  have hd3 := fun i => blk_frozen h3 i
  have hfit : QTopUpgrades.schema_Fits.f 0 0 1 1 5 0 0 = some true := by kernel_rfl
  go_upto_region 9 with (first
    | (go_at_call 43; refine (QTopUpgrades.schema_Fits.calls 0 0 1 1 5 0 0 true _ hfit).mono ?_; rintro e w1 ⟨rfl, hb⟩; have h11 := blk_below h1 hb; have h12 := blk_below h2 hb; have h13 := blk_below h3 hb; have hc11 := (fun i => blk_cell h11 i); have hd11 := (fun i => blk_frozen h11 i); have hc13 := (fun i => blk_cell h13 i); have hd13 := (fun i => blk_frozen h13 i); have HLw := Aside0.mk (HLb.out.below hb); have HB1 := Aside0.mk (below_step HBb.out hb); clear hb)
    | (go_at_call 144; refine (step_calls A n c _ HLw.out).mono ?_; rintro e w2 ⟨A2, c2, rfl, ho, hz, hk⟩; have HO := Aside0.mk ho; have HZ2 := Aside0.mk hz; have HK2 := Aside0.mk hk; have h21 := blk_kept h11 hk (fun he => absurd (hAlt _ he.symm) (by omega)); have h22 := blk_kept h12 hk (fun he => absurd (hAlt _ he.symm) (by omega)); have h23 := blk_kept h13 hk (fun he => absurd (hAlt _ he.symm) (by omega)); have hc21 := (fun i => blk_cell h21 i); have hd21 := (fun i => blk_frozen h21 i); have hc23 := (fun i => blk_cell h23 i); have hd23 := (fun i => blk_frozen h23 i); clear ho hz hk))
  obtain ⟨w3, hw3⟩ : ∃ w3, (((((w2.setCell ⟨w.heap.size, 1, none⟩ (.int .i64 0)).setCell ⟨w.heap.size, 2, none⟩ (.slice A2 1 c2)).setCell ⟨w.heap.size, 3, none⟩ (.bool false)).setCell ⟨w.heap.size, 4, none⟩ (.int .i64 0)).setCell ⟨w.heap.size + 1 + 1, 6, none⟩ (.int .i64 0)) = w3 := ⟨_, rfl⟩
  have hn1 : w.heap.size ≠ w.heap.size + 1 + 1 := by omega
  have hn2 : w.heap.size + 1 ≠ w.heap.size := by omega
  have hn3 : w.heap.size + 1 ≠ w.heap.size + 1 + 1 := by omega
  have hn4 : w.heap.size + 1 + 1 ≠ w.heap.size := by omega
  have hg3 : w.heap.size ≤ w.heap.size + 1 + 1 := by omega
  have h31 : w3.heap[w.heap.size]? = some (.cells #[.int .i64 0, .int .i64 0, .slice A2 1 c2, .bool false, .int .i64 0, .slice none 0 0] 51 (0, 0)) := by rw [← hw3]; (apply blk_is; (focus (repeat (first | (with_reducible exact h21) | (with_reducible apply blk_alloc) | (with_reducible apply blk_drew) | (with_reducible apply blk_drewN) | (with_reducible apply blk_set) | ((with_reducible apply blk_far2); (focus (first | omega | (simp; done) | (simp; omega))))))); (focus rfl))
  have h32 : w3.heap[w.heap.size + 1]? = some (.cells #[.int .i64 0, .int .i64 0, .slice none 0 0, .bool false, .int .i64 0, .slice none 0 0] 51 (0, 0)) := by rw [← hw3]; (apply blk_is; (focus (repeat (first | (with_reducible exact h22) | (with_reducible apply blk_alloc) | (with_reducible apply blk_drew) | (with_reducible apply blk_drewN) | (with_reducible apply blk_set) | ((with_reducible apply blk_far2); (focus (first | omega | (simp; done) | (simp; omega))))))); (focus rfl))
  have h33 : w3.heap[w.heap.size + 1 + 1]? = some (.cells #[.int .i64 0, .int .i64 0, .int .i64 1, .int .i64 1, .int .i64 5, .int .i64 0, .int .i64 0] 62 (0, 0)) := by rw [← hw3]; (apply blk_is; (focus (repeat (first | (with_reducible exact h23) | (with_reducible apply blk_alloc) | (with_reducible apply blk_drew) | (with_reducible apply blk_drewN) | (with_reducible apply blk_set) | ((with_reducible apply blk_far2); (focus (first | omega | (simp; done) | (simp; omega))))))); (focus rfl))
  have HO3 : Aside0 (Row 1 3 w3 (.slice A2 1 c2) [[.int .i64 5]]) := ⟨by rw [← hw3]; refine Row.set2 (by (repeat (first | (with_reducible exact h23) | (with_reducible apply blk_alloc) | (with_reducible apply blk_drew) | (with_reducible apply blk_drewN) | (with_reducible apply blk_set) | ((with_reducible apply blk_far2); (focus (first | omega | (simp; done) | (simp; omega))))))) (by decide) ?_; (repeat (first | (with_reducible exact HO.out) | (with_reducible apply Row.alloc) | (with_reducible apply Row.drew) | (with_reducible apply Row.drewN) | ((with_reducible apply Row.set2); (focus (repeat (first | (with_reducible exact h21) | (with_reducible apply blk_alloc) | (with_reducible apply blk_drew) | (with_reducible apply blk_drewN) | (with_reducible apply blk_set) | ((with_reducible apply blk_far2); (focus (first | omega | (simp; done) | (simp; omega))))))); (focus decide))))⟩
  have HZ3 : Aside0 (Below 0 w w3) := ⟨by rw [← hw3]; exact ((((((below_zero HB1.out).trans HZ2.out).setCell (Nat.zero_le _) _).setCell (Nat.zero_le _) _).setCell (Nat.zero_le _) _).setCell (Nat.zero_le _) _).setCell (Nat.zero_le _) _⟩
  have HK3 : Aside0 (Kept w w3 (fun k => some k = (Value.slice A n c).ownBlock)) := ⟨by rw [← hw3]; exact ((((((Kept.of_below HB1.out (fun k => some k = (Value.slice A n c).ownBlock)).then_ HK2.out (fun k hk => .inl hk)).setCell (.inr (Nat.le_refl _)) _).setCell (.inr (Nat.le_refl _)) _).setCell (.inr (Nat.le_refl _)) _).setCell (.inr (Nat.le_refl _)) _).setCell (.inr hg3) _⟩
  rw [hw3]
  clear hw3 h1 h2 h3 h11 h12 h13 h21 h22 h23 hc1 hd1 hc3 hd3 hc11 hd11 hc13 hd13 hc21 hd21 hc23 hd23 HO HZ2 HK2 HB1 HLw HBb HLb
  have hc31 := fun i => blk_cell h31 i
  have hd31 := fun i => blk_frozen h31 i
  have hc33 := fun i => blk_cell h33 i
  have hd33 := fun i => blk_frozen h33 i
  have hwr : IntKind.i64.wrap 1 = 1 := by decide
  go_region_with (go_at_call 145; refine (note_calls _).mono ?_; rintro e w4 ⟨A4, c4, rfl, ho, hb⟩; replace hb := below_step (w := w3) (by (repeat (first | exact Below.refl _ _ | apply below_drew1 | apply pw_below_drewN))) hb; have h41 := blk_below h31 hb; have h42 := blk_below h32 hb; have hc41 := (fun i => blk_cell h41 i); have hd41 := (fun i => blk_frozen h41 i); have hc42 := (fun i => blk_cell h42 i); have hd42 := (fun i => blk_frozen h42 i); have HT4 := Aside0.mk ho; have HB4 := Aside0.mk hb; clear ho hb)
  all_goals
    obtain ⟨w5, hw5⟩ : ∃ w5, ((w4.setCell ⟨w.heap.size, 0, none⟩ (.int .i64 1)).setCell ⟨w.heap.size, 5, none⟩ (.slice A4 1 c4)) = w5 := ⟨_, rfl⟩
    have h51 : w5.heap[w.heap.size]? = some (.cells #[.int .i64 1, .int .i64 0, .slice A2 1 c2, .bool false, .int .i64 0, .slice A4 1 c4] 51 (0, 0)) := by rw [← hw5]; (apply blk_is; (focus (repeat (first | (with_reducible exact h41) | (with_reducible apply blk_alloc) | (with_reducible apply blk_drew) | (with_reducible apply blk_drewN) | (with_reducible apply blk_set) | ((with_reducible apply blk_far2); (focus (first | omega | (simp; done) | (simp; omega))))))); (focus rfl))
    have h52 : w5.heap[w.heap.size + 1]? = some (.cells #[.int .i64 0, .int .i64 0, .slice none 0 0, .bool false, .int .i64 0, .slice none 0 0] 51 (0, 0)) := by rw [← hw5]; (apply blk_is; (focus (repeat (first | (with_reducible exact h42) | (with_reducible apply blk_alloc) | (with_reducible apply blk_drew) | (with_reducible apply blk_drewN) | (with_reducible apply blk_set) | ((with_reducible apply blk_far2); (focus (first | omega | (simp; done) | (simp; omega))))))); (focus rfl))
    have HR : Aside0 (Row 3 182 w5 (.slice A4 1 c4) [[.int .i64 0, .int .i64 1, .int .i64 0]]) := ⟨by rw [← hw5]; (repeat (first | (with_reducible exact HT4.out) | (with_reducible apply Row.alloc) | (with_reducible apply Row.drew) | (with_reducible apply Row.drewN) | ((with_reducible apply Row.set2); (focus (repeat (first | (with_reducible exact h41) | (with_reducible apply blk_alloc) | (with_reducible apply blk_drew) | (with_reducible apply blk_drewN) | (with_reducible apply blk_set) | ((with_reducible apply blk_far2); (focus (first | omega | (simp; done) | (simp; omega))))))); (focus decide))))⟩
    have HR2 : Aside0 (Row 1 3 w5 (.slice A2 1 c2) [[.int .i64 5]]) := ⟨by rw [← hw5]; (repeat (first | (with_reducible exact (HO3.out.below HB4.out)) | (with_reducible apply Row.alloc) | (with_reducible apply Row.drew) | (with_reducible apply Row.drewN) | ((with_reducible apply Row.set2); (focus (repeat (first | (with_reducible exact h41) | (with_reducible apply blk_alloc) | (with_reducible apply blk_drew) | (with_reducible apply blk_drewN) | (with_reducible apply blk_set) | ((with_reducible apply blk_far2); (focus (first | omega | (simp; done) | (simp; omega))))))); (focus decide))))⟩
    have HZ : Aside0 (Below 0 w w5) := ⟨by rw [← hw5]; exact ((HZ3.out.trans (below_zero HB4.out)).setCell (Nat.zero_le _) _).setCell (Nat.zero_le _) _⟩
    have HK : Aside0 (Kept w w5 (fun k => some k = (Value.slice A n c).ownBlock)) := ⟨by rw [← hw5]; exact ((HK3.out.below HB4.out).setCell (.inr (Nat.le_refl _)) _).setCell (.inr (Nat.le_refl _)) _⟩
    rw [hw5]
    clear hw5 h41 h42 hc41 hd41 hc42 hd42 HT4 HB4 h31 h32 h33 hc31 hd31 hc33 hd33 HO3 HZ3 HK3
    have hc51 := fun i => blk_cell h51 i
    have hd51 := fun i => blk_frozen h51 i
    have hc52 := fun i => blk_cell h52 i
    have hd52 := fun i => blk_frozen h52 i
    go_wp2
    rw [rounds_succ]
    go_wp2
    refine bodyPost_ret (results_ct rfl _ _ (w.heap.size + 1) 51 #[.int .i64 1, .int .i64 0, .slice A2 1 c2, .bool false, .int .i64 0, .slice A4 1 c4] (0, 0) _ rfl (by (apply blk_is; (focus (repeat (first | (with_reducible exact h52) | (with_reducible apply blk_alloc) | (with_reducible apply blk_drew) | (with_reducible apply blk_drewN) | (with_reducible apply blk_set) | ((with_reducible apply blk_far2); (focus (first | omega | (simp; done) | (simp; omega))))))); (focus rfl))) Tryz.underlying51 rfl (by kernel_rfl)) rfl ?_
    refine ⟨A2, c2, A4, c4, rfl, ?_, ?_, ?_, ?_⟩
    · (repeat (first | (with_reducible exact HR2.out) | (with_reducible apply Row.alloc) | (with_reducible apply Row.drew) | (with_reducible apply Row.drewN) | ((with_reducible apply Row.set2); (focus (repeat (first | (with_reducible exact h52) | (with_reducible apply blk_alloc) | (with_reducible apply blk_drew) | (with_reducible apply blk_drewN) | (with_reducible apply blk_set) | ((with_reducible apply blk_far2); (focus (first | omega | (simp; done) | (simp; omega))))))); (focus decide))))
    · (repeat (first | (with_reducible exact HR.out) | (with_reducible apply Row.alloc) | (with_reducible apply Row.drew) | (with_reducible apply Row.drewN) | ((with_reducible apply Row.set2); (focus (repeat (first | (with_reducible exact h52) | (with_reducible apply blk_alloc) | (with_reducible apply blk_drew) | (with_reducible apply blk_drewN) | (with_reducible apply blk_set) | ((with_reducible apply blk_far2); (focus (first | omega | (simp; done) | (simp; omega))))))); (focus decide))))
    · exact (((((HZ.out.setCell (Nat.zero_le _) _).setCell (Nat.zero_le _) _).setCell (Nat.zero_le _) _).setCell (Nat.zero_le _) _).setCell (Nat.zero_le _) _).setCell (Nat.zero_le _) _
    · have hg : w.heap.size ≤ w.heap.size + 1 := by omega
      exact (((((HK.out.setCell (.inr hg) _).setCell (.inr hg) _).setCell (.inr hg) _).setCell (.inr hg) _).setCell (.inr hg) _).setCell (.inr hg) _
end Go.Proofs.YtgljebaiakhbfaaGreat.Aw
namespace Go.Proofs.YtgljebaiakhbfaaGreat.Aw
open Go.RowKit Go.Maps Go.Sort Go.Shelf Go.Proofs Go.Proofs.YtgljebaiakhbfaaGreatW.PrintWords Go.Proofs.YtgljebaiakhbfaaGreatW.PrintLast Go.Proofs.YtgljebaiakhbfaaGreatW.PrintMore
set_option linter.unusedVariables false
set_option maxRecDepth 100000
set_option maxHeartbeats 4000000
attribute [local go_sem ↓] Go.wp_at_zero Go.wp_at_succ
/-- A store before its first record. -/
abbrev Fresh (w : World) (s d : Nat) (bases n0 n1 n2 n3 n4 n5 : Value) : Prop :=
  StoreAt w s (.pointer (some ⟨d, 0, none⟩)) (.int .i64 0) bases (.slice none 0 0) (.slice none 0 0) (.int .i64 0) (.int .i64 0) n0 n1 n2 n3 n4 n5 (.int .i64 0) (.bool false)
theorem wrap00 : IntKind.i64.wrap ((0 : Int) - 0) = 0 := by decide
theorem wrap01 : IntKind.i64.wrap 0 = 0 := by decide
attribute [local go_sem] wrap00 wrap01
theorem fresh_held {w : World} {s d : Nat} {bases n0 n1 n2 n3 n4 n5 : Value} (h : Fresh w s d bases n0 n1 n2 n3 n4 n5) : w.cell? ⟨s, 4, none⟩ = some (.slice none 0 0) ∧ w.cell? ⟨s, 5, none⟩ = some (.int .i64 0) := ⟨blk_cell h 4, blk_cell h 5⟩
theorem lt_alloc (w : World) (o : Obj) : w.heap.size < (w.alloc o).heap.size := by simp
theorem field0 (i k : Int) (A : Option Addr) (n c : Nat) (sl : Bool) (t : Int) (B : Option Addr) (m d : Nat) (W : World) : (Instr.field 51 (snapV i k A n c sl t B m d) 0).run Tryz.prog W = .ok (.int .i64 i) W := by
  simp [Instr.field, run_underlying Tryz.underlying51, part, asAgg, sizeOf, go_sem, Result.andThen]
/-- What is known of a world goes on in its place. -/
theorem cont {K : Act → World → Prop} {a : Act} {w : World} (P : World → Prop) (h : P w) (k : ∀ w5, P w5 → K a w5) : K a w := k w h
theorem follow_calls (s d b : Nat) (p0 p1 p2 p3 p4 p5 : Value) (A : Option Addr) (n c : Nat) (w : World)
    (hS : Fresh w s d (.slice (some ⟨b, 0, none⟩) 1 1) p0 p1 p2 p3 p4 p5) (hB : SnapAt w b 0 0 A n c false 0 none 0 0) (hL : Row 1 3 w (.slice A n c) [[.int .i64 0]]) :
    Calls Tryz.prog 58 #[.pointer (some ⟨s, 0, none⟩)] w fun e w' => e = .returned (.bool true) ∧
      (∃ A' n' c', Fresh w' s d (.slice (some ⟨b, 0, none⟩) 1 1) (.int .i64 0) (.int .i64 0) (.slice A' n' c') (.bool false) (.int .i64 0) (.slice none 0 0) ∧ Row 1 3 w' (.slice A' n' c') [[.int .i64 0]] ∧ ∀ k, (Value.slice A' n' c').ownBlock = some k → w.heap.size ≤ k) ∧ Below 0 w w' ∧ Kept w w' (fun k => k = s) := by
  have hc := fun i => blk_cell hS i
  have hd := fun i => blk_frozen hS i
  have hlt := blk_lt hS
  have hne := Nat.ne_of_lt hlt
  have hbase := fun W (h : Below w.heap.size w W) => base_calls s b _ _ _ _ _ _ _ _ _ _ _ _ _ _ 0 0 A n c false 0 none 0 0 _ [] W (blk_below hS h) (blk_below hB h) (hL.below h) (Row.nil _ _ _) (by decide) (by decide) (fun _ => rfl)
  have hnext : ∀ W, Below w.heap.size w W → Calls Tryz.prog 60 #[.pointer (some ⟨s, 0, none⟩)] W (fun e w' => e = .returned (.int .i64 0) ∧ Below W.heap.size W w') := fun W h => (next_calls s 0 0 none 0 _ _ _ _ _ _ _ _ _ _ _ _ _ W (blk_below hS h)).mono (fun e w' h => ⟨h.1.trans (by rw [show wrap64 (0 + ((0 : Nat) : Int)) = 0 from by rw [← i64_w]; decide]), h.2⟩)
  go_enter Tryz.func58, Tryz.ntmps58
  go_upto_region 4 with (first
    | (go_at_call 59; refine (hbase _ (by (repeat (first | (with_reducible exact Below.refl _ _) | (with_reducible apply below_alloc) | (with_reducible apply below_drew1) | (with_reducible apply pw_below_drewN))))).mono ?_; rintro e w1 ⟨⟨v, rfl, ⟨A1, n1, c1, B1, m1, d1, rfl, ho1, ho2, hz, hf⟩⟩, hb⟩; clear hf; obtain ⟨HB1⟩ : Aside0 (Below w.heap.size w w1) := ⟨below_step (by (repeat (first | (with_reducible exact Below.refl _ _) | (with_reducible apply below_alloc) | (with_reducible apply below_drew1) | (with_reducible apply pw_below_drewN)))) hb⟩; have hS1 := blk_below hS HB1; have hc1 := (fun i => blk_cell hS1 i); have hd1 := (fun i => blk_frozen hS1 i); have HB1' := Aside0.mk HB1; clear hb ho1 ho2 hz HB1; have hfl := field0 0 0 A1 n1 c1 false 0 B1 m1 d1; dsimp only [snapV] at hfl ⊢)
    | (go_at_call 60; refine (hnext _ (below_step HB1'.out (by (repeat (first | (with_reducible exact Below.refl _ _) | (with_reducible apply below_alloc) | (with_reducible apply below_drew1) | (with_reducible apply pw_below_drewN)))))).mono ?_; rintro e w2 ⟨rfl, hb⟩; obtain ⟨HB2⟩ : Aside0 (Below w.heap.size w w2) := ⟨below_step HB1'.out (below_step (by (repeat (first | (with_reducible exact Below.refl _ _) | (with_reducible apply below_alloc) | (with_reducible apply below_drew1) | (with_reducible apply pw_below_drewN)))) hb)⟩; have hS2 := blk_below hS HB2; have hlt2 := blk_lt hS2; have hne2 := Nat.ne_of_lt hlt2; have hc2 := (fun i => blk_cell hS2 i); have hd2 := (fun i => blk_frozen hS2 i); have HB2' := Aside0.mk HB2; clear hb HB2))
  obtain ⟨HBp⟩ := HB2'
  have hcs4 := hc2 4
  have hcs5 := hc2 5
  have HN := Aside0.mk hbase
  clear hc hd hc1 hd1 hS1 hfl hnext hbase hc2 hd2 HB1' hL hB
  go_cut [4, 5] (fun v4 v5 w5 => ∃ g, v4 = .pointer (some ⟨g, 0, none⟩) ∧ v5 = .int .i64 0 ∧ ∃ A3 n3 c3, s < g ∧ Fresh w5 s d (.slice (some ⟨b, 0, none⟩) 1 1) p0 p1 p2 p3 p4 p5 ∧ SnapAt w5 g 0 0 A3 n3 c3 false 0 none 0 0 ∧ Row 1 3 w5 (.slice A3 n3 c3) [[.int .i64 0]] ∧ Below w.heap.size w w5 ∧ ∀ k, (Value.slice A3 n3 c3).ownBlock = some k → w.heap.size ≤ k)
  case first =>
    go_region_held3 (fun w' => w'.cell? ⟨s, 4, none⟩ = some (.slice none 0 0) ∧ w'.cell? ⟨s, 5, none⟩ = some (.int .i64 0)) (first | (refine fresh_held (d := d) (bases := .slice (some ⟨b, 0, none⟩) 1 1) (n0 := p0) (n1 := p1) (n2 := p2) (n3 := p3) (n4 := p4) (n5 := p5) ?_; (repeat (first | (with_reducible exact hS4) | (with_reducible apply blk_alloc) | (with_reducible apply blk_drew) | (with_reducible apply blk_drewN) | (with_reducible apply blk_set) | ((with_reducible apply blk_far2); (focus (first | omega | (simp; done) | (simp; omega)))))); done) | (refine fresh_held (d := d) (bases := .slice (some ⟨b, 0, none⟩) 1 1) (n0 := p0) (n1 := p1) (n2 := p2) (n3 := p3) (n4 := p4) (n5 := p5) ?_; (repeat (first | (with_reducible exact hS3) | (with_reducible apply blk_alloc) | (with_reducible apply blk_drew) | (with_reducible apply blk_drewN) | (with_reducible apply blk_set) | ((with_reducible apply blk_far2); (focus (first | omega | (simp; done) | (simp; omega)))))); done) | (refine fresh_held (d := d) (bases := .slice (some ⟨b, 0, none⟩) 1 1) (n0 := p0) (n1 := p1) (n2 := p2) (n3 := p3) (n4 := p4) (n5 := p5) ?_; (repeat (first | (with_reducible exact hS2) | (with_reducible apply blk_alloc) | (with_reducible apply blk_drew) | (with_reducible apply blk_drewN) | (with_reducible apply blk_set) | ((with_reducible apply blk_far2); (focus (first | omega | (simp; done) | (simp; omega)))))); done) | fail)
      (first
      | (go_at_call 59; refine (HN.out _ (below_step HBp (by (repeat (first | (with_reducible exact Below.refl _ _) | (with_reducible apply below_alloc) | (with_reducible apply below_drew1) | (with_reducible apply pw_below_drewN)))))).mono ?_; rintro e w3 ⟨⟨v, rfl, ⟨A3, n3, c3, B3, m3, d3, rfl, ho1, ho2, hz, hf⟩⟩, hb⟩; have HFr := Aside0.mk (fun k hk => Nat.le_trans (below_step HBp (by (repeat (first | (with_reducible exact Below.refl _ _) | (with_reducible apply below_alloc) | (with_reducible apply below_drew1) | (with_reducible apply pw_below_drewN))) : Below w2.heap.size w2 _)).size (hf k hk)); clear hf; (first | (have hN3 : w3.heap[w2.heap.size]? = some _ := blk_below (blk_new w2.drew _) hb) | skip); obtain ⟨HB3⟩ : Aside0 (Below w.heap.size w w3) := ⟨below_step HBp (below_step (by (repeat (first | (with_reducible exact Below.refl _ _) | (with_reducible apply below_alloc) | (with_reducible apply below_drew1) | (with_reducible apply pw_below_drewN)))) hb)⟩; have hS3 := blk_below hS HB3; have hlt3 := blk_lt hS3; have hne3 := Nat.ne_of_lt hlt3; have hc3 := (fun i => blk_cell hS3 i); have hd3 := (fun i => blk_frozen hS3 i); have HB3' := Aside0.mk HB3; have HO3 := Aside0.mk ho1; obtain ⟨rfl, rfl, rfl⟩ := (by simpa using hz rfl : B3 = none ∧ m3 = 0 ∧ d3 = 0); clear hb ho1 ho2 hz HB3)
      | (go_at_call 98; refine (take0 0 0 A3 n3 c3 false 0 none 0 0 _ _ _).mono ?_; rintro e w4 ⟨rfl, hb⟩; (first | (have hN4 := blk_below hN3 hb; have hcN4 := (fun i => blk_cell hN4 i); have hdN4 := (fun i => blk_frozen hN4 i)) | (have hN4 := blk_below (blk_new w3 _) hb; have hcN4 := (fun i => blk_cell hN4 i); have hdN4 := (fun i => blk_frozen hN4 i)) | skip); obtain ⟨HB4⟩ : Aside0 (Below w3.heap.size w3 w4) := ⟨below_step (by (repeat (first | (with_reducible exact Below.refl _ _) | (with_reducible apply below_alloc) | (with_reducible apply below_drew1) | (with_reducible apply pw_below_drewN)))) hb⟩; have hS4 := blk_below hS3 HB4; have hlt4 := blk_lt hS4; have hne4 := Nat.ne_of_lt hlt4; have hc4 := (fun i => blk_cell hS4 i); have hd4 := (fun i => blk_frozen hS4 i); have HB4' := Aside0.mk HB4; clear hb HB4; dsimp only [snapV]))
    all_goals (go_wp2_with fail)
    · go_meet
      case rel =>
        refine ⟨w4.heap.size, rfl, rfl, A3, n3, c3, hlt4, by (repeat (first | (with_reducible exact hS4) | (with_reducible apply blk_alloc) | (with_reducible apply blk_drew) | (with_reducible apply blk_drewN) | (with_reducible apply blk_set) | ((with_reducible apply blk_far2); (focus (first | omega | (simp; done) | (simp; omega)))))), by (apply blk_is; (focus (repeat (first | (with_reducible exact (blk_new w4 _)) | (with_reducible apply blk_alloc) | (with_reducible apply blk_drew) | (with_reducible apply blk_drewN) | (with_reducible apply blk_set) | ((with_reducible apply blk_far2); (focus (first | omega | (simp; done) | (simp; omega))))))); (focus rfl)), by (repeat (first | (with_reducible exact (HO3.out.below HB4'.out)) | (with_reducible apply Row.alloc) | (with_reducible apply Row.drew) | (with_reducible apply Row.drewN) | ((with_reducible apply Row.set2); (focus (repeat (first | (with_reducible exact (blk_new w4 _)) | (with_reducible apply blk_alloc) | (with_reducible apply blk_drew) | (with_reducible apply blk_drewN) | (with_reducible apply blk_set) | ((with_reducible apply blk_far2); (focus (first | omega | (simp; done) | (simp; omega))))))); (focus decide)))), ?_, HFr.out⟩
        have hg : w.heap.size ≤ w4.heap.size := Nat.le_trans HB3'.out.size HB4'.out.size
        repeat (first | (with_reducible exact below_alloc (below_step HB3'.out HB4'.out) _) | (with_reducible refine below_set ?_ hg))
    · go_meet
      case rel =>
        refine ⟨w3.heap.size, rfl, rfl, A3, n3, c3, hlt3, by (repeat (first | (with_reducible exact hS4) | (with_reducible apply blk_alloc) | (with_reducible apply blk_drew) | (with_reducible apply blk_drewN) | (with_reducible apply blk_set) | ((with_reducible apply blk_far2); (focus (first | omega | (simp; done) | (simp; omega)))))), by (apply blk_is; (focus (repeat (first | (with_reducible exact hN4) | (with_reducible apply blk_alloc) | (with_reducible apply blk_drew) | (with_reducible apply blk_drewN) | (with_reducible apply blk_set) | ((with_reducible apply blk_far2); (focus (first | omega | (simp; done) | (simp; omega))))))); (focus rfl)), by (repeat (first | (with_reducible exact (HO3.out.below HB4'.out)) | (with_reducible apply Row.alloc) | (with_reducible apply Row.drew) | (with_reducible apply Row.drewN) | ((with_reducible apply Row.set2); (focus (repeat (first | (with_reducible exact hN4) | (with_reducible apply blk_alloc) | (with_reducible apply blk_drew) | (with_reducible apply blk_drewN) | (with_reducible apply blk_set) | ((with_reducible apply blk_far2); (focus (first | omega | (simp; done) | (simp; omega))))))); (focus decide)))), ?_, HFr.out⟩
        have hg : w.heap.size ≤ w3.heap.size := HB3'.out.size
        repeat (first | (with_reducible exact below_step HB3'.out HB4'.out) | (with_reducible refine below_set ?_ hg))
    · go_meet
      case rel =>
        refine ⟨w2.heap.size, rfl, rfl, A3, n3, c3, hlt2, by (repeat (first | (with_reducible exact hS4) | (with_reducible apply blk_alloc) | (with_reducible apply blk_drew) | (with_reducible apply blk_drewN) | (with_reducible apply blk_set) | ((with_reducible apply blk_far2); (focus (first | omega | (simp; done) | (simp; omega)))))), by (apply blk_is; (focus (repeat (first | (with_reducible exact hN4) | (with_reducible apply blk_alloc) | (with_reducible apply blk_drew) | (with_reducible apply blk_drewN) | (with_reducible apply blk_set) | ((with_reducible apply blk_far2); (focus (first | omega | (simp; done) | (simp; omega))))))); (focus rfl)), by (repeat (first | (with_reducible exact (HO3.out.below HB4'.out)) | (with_reducible apply Row.alloc) | (with_reducible apply Row.drew) | (with_reducible apply Row.drewN) | ((with_reducible apply Row.set2); (focus (repeat (first | (with_reducible exact hN4) | (with_reducible apply blk_alloc) | (with_reducible apply blk_drew) | (with_reducible apply blk_drewN) | (with_reducible apply blk_set) | ((with_reducible apply blk_far2); (focus (first | omega | (simp; done) | (simp; omega))))))); (focus decide)))), ?_, HFr.out⟩
        have hg : w.heap.size ≤ w2.heap.size := HBp.size
        repeat (first | (with_reducible exact below_step HB3'.out HB4'.out) | (with_reducible refine below_set ?_ hg))
  case rest =>
    obtain ⟨g, rfl, rfl, A3, n3, c3, hsg, hS5, hG5, hR5, hB5, hF5⟩ := hcut
    have HF5 := Aside0.mk hF5
    clear hF5
    have hc5 := fun i => blk_cell hS5 i
    have hd5 := fun i => blk_frozen hS5 i
    have hcg := fun i => blk_cell hG5 i
    have hdg := fun i => blk_frozen hG5 i
    have HR5 := Aside0.mk hR5
    have HB5 := Aside0.mk hB5
    have hn5 := Nat.ne_of_lt hsg
    clear hR5 hB5 hS2 hlt2 hne2 hcs4 hcs5 HN hlt hne hS HBp
    go_wp2
    go_ret
    refine ⟨rfl, ⟨A3, n3, c3, by (apply blk_is; (focus (repeat (first | (with_reducible exact hS5) | (with_reducible apply blk_alloc) | (with_reducible apply blk_drew) | (with_reducible apply blk_drewN) | (with_reducible apply blk_set) | ((with_reducible apply blk_far2); (focus (first | omega | (simp; done) | (simp; omega))))))); (focus rfl)), by (repeat (first | (with_reducible exact HR5.out) | (with_reducible apply Row.alloc) | (with_reducible apply Row.drew) | (with_reducible apply Row.drewN) | ((with_reducible apply Row.set2); (focus (repeat (first | (with_reducible exact hS5) | (with_reducible apply blk_alloc) | (with_reducible apply blk_drew) | (with_reducible apply blk_drewN) | (with_reducible apply blk_set) | ((with_reducible apply blk_far2); (focus (first | omega | (simp; done) | (simp; omega))))))); (focus decide)))), HF5.out⟩, ?_, ?_⟩
    · have z := below_zero HB5.out
      exact (((((z.setCell (Nat.zero_le _) _).setCell (Nat.zero_le _) _).setCell (Nat.zero_le _) _).setCell (Nat.zero_le _) _).setCell (Nat.zero_le _) _).setCell (Nat.zero_le _) _
    · have z := Kept.of_below HB5.out (fun k => k = s)
      exact (((((z.setCell (.inl rfl) _).setCell (.inl rfl) _).setCell (.inl rfl) _).setCell (.inl rfl) _).setCell (.inl rfl) _).setCell (.inl rfl) _
end Go.Proofs.YtgljebaiakhbfaaGreat.Aw
