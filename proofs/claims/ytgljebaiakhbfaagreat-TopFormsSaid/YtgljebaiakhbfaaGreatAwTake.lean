/- What this text proves: what snapshot.Note and Take tell of a first record; condition: the rows. -/
import Derived.Test.YtgljebaiakhbfaaGreatAwStep
import Derived.BigQuiet
import Derived.Deep.RegionWith
namespace Go.Proofs.YtgljebaiakhbfaaGreat.Aw
open Go.RowKit Go.Maps Go.Sort Go.Shelf Go.Proofs Go.Proofs.YtgljebaiakhbfaaGreatW.PrintWords Go.Proofs.YtgljebaiakhbfaaGreatW.PrintLast Go.Proofs.YtgljebaiakhbfaaGreatW.PrintMore
set_option linter.unusedVariables false
set_option maxRecDepth 100000
set_option maxHeartbeats 4000000
theorem indexE (fv : Value) (w : World) : Calls Tryz.prog 169 #[.slice none 0 0, fv] w fun e w' => e = .returned (.int .i64 (-1)) ∧ w = w' := by
  go_enter Tryz.func169, Tryz.ntmps169
  go_wp2
  refine wp_loop_rounds 1 ?_
  repeat any_goals (rw [rounds_succ]; go_wp2)
  go_ret
  exact ⟨rfl, rfl⟩
theorem deleteE (fv : Value) (w : World) : Calls Tryz.prog 167 #[.slice none 0 0, fv] w fun e w' => e = .returned (.slice none 0 0) ∧ w = w' := by
  go_enter Tryz.func167, Tryz.ntmps167
  go_wp2_with (go_at_call 169; refine (indexE _ _).mono ?_; rintro e w' ⟨rfl, rfl⟩)
  go_ret
  exact ⟨rfl, rfl⟩
theorem insertE (A0 : Option Addr) (c0 : Nat) (row : List Value) (w : World) (hC : (Kd.raw 3).C w A0 1 [row]) :
    Calls Tryz.prog 171 #[.slice none 0 0, .int .i64 0, .slice A0 1 c0] w fun e w' => ∃ A c, e = .returned (.slice A 1 c) ∧ Row 3 182 w' (.slice A 1 c) [row] ∧ Below w.heap.size w w' := by
  have HC := Aside0.mk hC
  clear hC
  go_enter Tryz.func171, Tryz.ntmps171
  go_wp2_with (first
    | ((with_reducible refine gate_builtin (b := .append) (xs := #[.tmp 23, .tmp 24]) rfl ?_); at_builtin; refine nil_append_rows (sz := 3) (e := 182) rfl (.tmp 23) (.tmp 24) 49 (.agg #[.int .i64 0, .int .i64 0, .int .i64 0]) 24 rfl Tryz.underlying49 infoE rfl (by decide) (by decide) A0 1 c0 [row] HC.out rfl rfl (by omega) ?_; intro A3 c3 wf ho hb; have HO := Aside0.mk ho; have HB := Aside0.mk hb; clear ho hb))
  go_ret
  exact ⟨A3, c3, rfl, HO.out, HB.out⟩
/-- A block as a row of one. -/
theorem lit_C {sz e g : Nat} {w : World} {row : List Value} (h : w.heap[g]? = some (.cells row.toArray e (0, 0))) (hl : row.length = sz) (ho : ∀ u ∈ row, u.oneCell' = true) : (Kd.raw sz).C w (some ⟨g, 0, none⟩) 1 [row] := by
  refine ⟨rfl, by omega, fun _ => ⟨⟨g, 0, none⟩, rfl, fun j p hj => ⟨row, hl, ?_, fun i u hu => ?_⟩⟩⟩
  · rcases j with _ | j
    · simp only [List.getElem?_cons_zero, Option.some.injEq] at hj
      subst hj
      exact ⟨rfl, hl, ho⟩
    · simp at hj
  · rcases j with _ | j
    · have := blk_cell h i
      rw [List.getElem?_toArray, hu] at this
      rcases i with _ | i
      · simpa [Addr.add] using this
      · simpa [Addr.add] using this
    · simp at hj
theorem note_calls (w : World) :
    Calls Tryz.prog 145 #[.slice none 0 0, .agg #[.int .i64 0, .int .i64 0, .int .i64 1, .int .i64 1, .int .i64 5, .int .i64 0, .int .i64 0]] w fun e w' => ∃ A c, e = .returned (.slice A 1 c) ∧ Row 3 182 w' (.slice A 1 c) [[.int .i64 0, .int .i64 1, .int .i64 0]] ∧ Below w.heap.size w w' := by
  go_enter Tryz.func145, Tryz.ntmps145
  go_wp2_with (first
    | (go_at_call 126; refine (clone_entry _ [] _ (Row.nil _ _ _) (by decide)).mono ?_; rintro e w1 ⟨v1, rfl, ho, hb, hz⟩; obtain rfl := hz rfl; have h11 := blk_below (blk_new w _) hb; have hc1 := (fun i => blk_cell h11 i); have hd1 := (fun i => blk_frozen h11 i); have HB1 := Aside0.mk (below_step (by (repeat (first | (with_reducible exact Below.refl _ _) | (with_reducible apply below_alloc) | (with_reducible apply below_drew1) | (with_reducible apply pw_below_drewN)))) hb : Below w.heap.size w w1); clear ho hb hz)
    | (go_at_call 167; refine (deleteE _ _).mono ?_; rintro e w2 ⟨rfl, rfl⟩)
    | (go_at_call 169; refine (indexE _ _).mono ?_; rintro e w2 ⟨rfl, rfl⟩)
    | (go_at_call 171; refine (insertE _ _ [.int .i64 0, .int .i64 1, .int .i64 0] _ (lit_C (row := [.int .i64 0, .int .i64 1, .int .i64 0]) (e := 182) (blk_new w1 _) rfl (by decide))).mono ?_; rintro e w3 ⟨A3, c3, rfl, ho, hb⟩; have HO := Aside0.mk ho; have HB3 := Aside0.mk (below_step HB1.out (below_step (by (repeat (first | (with_reducible exact Below.refl _ _) | (with_reducible apply below_alloc) | (with_reducible apply below_drew1) | (with_reducible apply pw_below_drewN)))) hb)); clear ho hb))
  go_ret
  exact ⟨A3, c3, rfl, HO.out, HB3.out⟩
end Go.Proofs.YtgljebaiakhbfaaGreat.Aw
