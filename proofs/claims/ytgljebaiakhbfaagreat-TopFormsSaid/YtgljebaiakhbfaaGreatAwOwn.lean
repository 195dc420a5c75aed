/- What this text proves: what slices.Clone tells of numbers and of entries, as cells; the words that the run's proof has in common; no condition. -/
import Derived.Test.YtgljebaiakhbfaaGreatAwSort
import Derived.Lib.SliceRun
namespace Go.Proofs.YtgljebaiakhbfaaGreat.Aw
open Go.RowKit Go.Maps Go.Sort Go.Shelf Go.Proofs Go.Proofs.YtgljebaiakhbfaaGreatW.PrintWords Go.Proofs.YtgljebaiakhbfaaGreatW.PrintLast Go.Proofs.YtgljebaiakhbfaaGreatW.PrintMore
set_option linter.unusedVariables false
set_option maxRecDepth 100000
/-- A row of the program's own, by its cells. -/
abbrev Row (sz e : Nat) (w : World) (v : Value) (rows : List (List Value)) : Prop := (Kd.raw sz).R e w 0 (fun _ => True) v rows
theorem Row.below {sz e : Nat} {w w' : World} {v : Value} {rows : List (List Value)} (h : Row sz e w v rows) (hb : Below w.heap.size w w') : Row sz e w' v rows := Kd.R_below h hb
theorem Row.nil (sz e : Nat) (w : World) : Row sz e w (.slice none 0 0) [] := Kd.R_nil _ _ _ _ _
/-- A row of nothing that was made. -/
theorem row_empty {sz e g : Nat} {w : World} (h : w.heap[g]? = some (.cells #[] e (0, 0))) : Row sz e w (.slice (some ⟨g, 0, none⟩) 0 0) [] :=
  ⟨fun _ _ => trivial, [], ⟨by simp, .inr ⟨g, 0, #[], rfl, Nat.zero_le _, h, Nat.le_refl _, Nat.zero_le _, by simp, by simp⟩⟩, Reps.none _ _⟩
theorem below_own {w W W1 : World} {v : Value} (h : Below w.heap.size w W) (hg : W.grownBy W1 v.ownBlock) (hv : ∀ k, v.ownBlock = some k → w.heap.size ≤ k) : Below w.heap.size w W1 :=
  h.grown hg h.size (fun k e => hv k e)
theorem blk_is {w : World} {g : Nat} {t : TypeId} {cs cs' : Array Value} (h : w.heap[g]? = some (.cells cs t (0, 0))) (e : cs = cs') : w.heap[g]? = some (.cells cs' t (0, 0)) := e ▸ h
theorem blk_far2 {w : World} {g : Nat} {t : TypeId} {cs : Array Value} {p : Addr} {u : Value} (hp : g ≠ p.block) (h : w.heap[g]? = some (.cells cs t (0, 0))) : (w.setCell p u).heap[g]? = some (.cells cs t (0, 0)) := blk_far h hp u
theorem Row.set {sz e : Nat} {w : World} {v : Value} {rows : List (List Value)} (h : Row sz e w v rows) {g t : Nat} {cells : Array Value} (hb : w.heap[g]? = some (.cells cells t (0, 0))) (ht : e ≠ t) (j : Nat) (u : Value) : Row sz e (w.setCell ⟨g, j, none⟩ u) v rows :=
  Kd.R_set h hb (fun q hq => by
    have : q = e := by simpa [Kd.raw] using hq
    rw [this]; exact ht) j u
theorem Row.set2 {sz e : Nat} {w : World} {v : Value} {rows : List (List Value)} {g t j : Nat} {u : Value} {cells : Array Value} (hb : w.heap[g]? = some (.cells cells t (0, 0))) (ht : e ≠ t) (h : Row sz e w v rows) : Row sz e (w.setCell ⟨g, j, none⟩ u) v rows := h.set hb ht j u
theorem Row.alloc {sz e : Nat} {w : World} {v : Value} {rows : List (List Value)} {o : Obj} (h : Row sz e w v rows) : Row sz e (w.alloc o) v rows := Kd.R_alloc h o
theorem Row.drew {sz e : Nat} {w : World} {v : Value} {rows : List (List Value)} (h : Row sz e w v rows) : Row sz e w.drew v rows := Kd.R_drew h
theorem Row.drewN {sz e n : Nat} {w : World} {v : Value} {rows : List (List Value)} (h : Row sz e w v rows) : Row sz e (w.drewN n) v rows := Kd.R_drewN h n
theorem below_kept {w0 w w' : World} {S : Nat → Prop} (h : Below w0.heap.size w0 w) (k : Kept w w' S) (z : Below 0 w w') (hS : ∀ k, S k → w0.heap.size ≤ k) : Below w0.heap.size w0 w' :=
  ⟨z.os.trans h.os, z.tape.trans h.tape, z.output.trans h.output, Nat.le_trans h.size k.1, fun i hi => (k.2 i (Nat.lt_of_lt_of_le hi h.size) (fun hs => absurd (hS i hs) (by omega))).trans (h.block i hi)⟩
theorem below_zero {w W : World} {b : Nat} (h : Below b w W) : Below 0 w W := h.mono (Nat.zero_le _)
theorem infoI : (Tryz.prog.info? 3).map (fun i => (i.zero, i.size, i.bytes)) = some (some (.int .i64 0), 1, 8) := by kernel_rfl
section
variable {P : Program} {ops : Array Oper} {rest : List Oper} {o : Oper} {a : Act} {Q : Exit → Act → World → Prop}
/-- append(nil, x). -/
theorem nil_append {W : World} {sz e : Nat} (hgd : o.guard = none) (s x : Operand) (t : TypeId) (z : Value) (bytes : Nat)
    (ho : o.op = .call { callee := .builtin .append, args := #[s, x], argTypes := #[t, t] })
    (ht : P.underlying t = some (.slice e)) (hinfo : (P.info? e).map (fun i => (i.zero, i.size, i.bytes)) = some (some z, sz, bytes)) (hz : z.cells.size = sz) (hs0 : 0 < sz) (hb0 : 0 < bytes)
    (cs : List Value) (hcl : cs.length = sz) (hone : ∀ u ∈ cs, u.oneCell' = true) (hs : a.eval s = .slice none 0 0) (hx : a.eval x = .slice (some ⟨W.heap.size, 0, none⟩) 1 1) (hl : bytes ≤ 140737488355328)
    (h : ∀ A c w1, Row sz e w1 (.slice A 1 c) [cs] → Below W.heap.size W w1 → wpList P ops Q rest (a.put o.dst (.slice A 1 c)) w1) :
    wpList P ops Q (o :: rest) a (W.alloc (.cells cs.toArray e)) :=
  Kd.R_append (Kd.raw sz) (w0 := W) 0 hgd s x t e z bytes ho ht hinfo hz hs0 hb0 (.slice none 0 0) [] cs cs (fun _ => True) (fun _ => False) hs hx ⟨rfl, hcl, hone⟩ (fun _ hk => hk.elim) (fun _ _ => trivial)
    (Kd.R_nil _ _ _ _ _) (below_zero (Below.refl 0 W)) (Nat.zero_le _) (by simpa using hl) (fun v1 w1 hr _ hg _ => by
      obtain ⟨A, c, rfl⟩ := Kd.R_slice hr
      exact h A c w1 hr (below_own (Below.refl _ _) hg (fun k e => by simp [Value.ownBlock] at e)))
/-- append(nil, l...). -/
theorem nil_append_rows {W : World} {sz e : Nat} (hgd : o.guard = none) (s x : Operand) (t : TypeId) (z : Value) (bytes : Nat)
    (ho : o.op = .call { callee := .builtin .append, args := #[s, x], argTypes := #[t, t] })
    (ht : P.underlying t = some (.slice e)) (hinfo : (P.info? e).map (fun i => (i.zero, i.size, i.bytes)) = some (some z, sz, bytes)) (hz : z.cells.size = sz) (hs0 : 0 < sz) (hb0 : 0 < bytes)
    (A0 : Option Addr) (m c0 : Nat) (rows : List (List Value)) (hr0 : (Kd.raw sz).C W A0 m rows) (hs : a.eval s = .slice none 0 0) (hx : a.eval x = .slice A0 m c0) (hl : m * bytes ≤ 140737488355328)
    (h : ∀ A c w1, Row sz e w1 (.slice A rows.length c) rows → Below W.heap.size W w1 → wpList P ops Q rest (a.put o.dst (.slice A rows.length c)) w1) :
    wpList P ops Q (o :: rest) a W :=
  Kd.R_append_rows (Kd.raw sz) (w0 := W) 0 hgd s x t e z bytes ho ht hinfo hz hs0 hb0 (.slice none 0 0) [] rows A0 m c0 (fun _ => True) (fun _ => False) hs hx
    (Kd.R_nil _ _ _ _ _) hr0 (fun _ _ h => h) (fun _ hk => hk.elim) (fun _ _ => trivial) (below_zero (Below.refl 0 W)) (Nat.zero_le _) (by simpa using hl) (fun v1 w1 hr _ hg _ => by
      obtain ⟨A, c, rfl⟩ := Kd.R_slice hr
      exact h A c w1 hr (below_own (Below.refl _ _) hg (fun k e => by simp [Value.ownBlock] at e)))
end
set_option maxHeartbeats 2000000 in
theorem clone_int (v : Value) (rows : List (List Value)) (w : World) (h : Row 1 3 w v rows) (hl : rows.length ≤ 1000) :
    Calls Tryz.prog 125 #[v] w fun e w' => ∃ v', e = .returned v' ∧ Row 1 3 w' v' rows ∧ Below w.heap.size w w' ∧ (∀ k, v'.ownBlock = some k → w.heap.size ≤ k) := by
  obtain ⟨A, c, rfl, hlc, hC⟩ := Kd.R_reads h
  have HR := Aside0.mk hC
  clear h hC
  have hn := Aside0.mk hl
  clear hl
  cases A with
  | none =>
    have h0 : rows = [] := by
      rcases Nat.eq_zero_or_pos rows.length with h0 | h0
      · exact List.eq_nil_of_length_eq_zero h0
      · obtain ⟨ad, e, _⟩ := HR.out.2.2 h0
        cases e
    subst h0
    have heq := fun W : World => Lib.run_eql_slice_nil (P := Tryz.prog) W 34 3 none 0 c 0 0 Tryz.underlying34
    go_enter Tryz.func125, Tryz.ntmps125
    go_wp2
    go_ret
    exact ⟨_, rfl, Row.nil _ _ _, Below.refl _ _, fun k hk => by simp [Value.ownBlock] at hk⟩
  | some ad =>
    have heq := fun W : World => Lib.run_eql_slice_nil (P := Tryz.prog) W 34 3 (some ad) rows.length c 0 0 Tryz.underlying34
    go_enter Tryz.func125, Tryz.ntmps125
    go_wp2_with (first | ((with_reducible refine gate_builtin (b := .append) (xs := #[.tmp 5, .tmp 6]) rfl ?_); at_builtin; refine Kd.R_append_rows (Kd.raw 1) (w0 := w) 0 rfl (.tmp 5) (.tmp 6) 34 3 (.int .i64 0) 8 rfl Tryz.underlying34 infoI rfl (by decide) (by omega) (.slice (some ⟨w.heap.size, 0, none⟩) 0 0) [] rows _ _ _ (fun _ => True) (fun _ => False) rfl rfl (row_empty (blk_new w _)) (Kd.C_alloc HR.out _) (fun _ _ h => h) (fun _ h => h.elim) (fun _ _ => trivial) (below_zero (below_alloc (Below.refl _ _) _)) (Nat.zero_le _) (by have := hn.out; simp only [List.length_nil]; omega) ?_; intro v1 w1 ho hb hg hat; have HO := Aside0.mk ho; have HB := Aside0.mk (below_own (below_alloc (Below.refl _ _) _) hg (fun k e => by simp [Value.ownBlock] at e; omega)); have HT := Aside0.mk (show ∀ k, v1.ownBlock = some k → w.heap.size ≤ k from fun k hk => by (rcases hat with h | ⟨b, h, h2⟩); (focus (have h3 := hk.symm.trans h; simp [Value.ownBlock] at h3; omega)); (have h3 := hk.symm.trans h; simp only [Option.some.injEq] at h3; simp at h2; omega)); clear ho hb hg hat))
    go_ret
    exact ⟨_, rfl, HO.out, HB.out, HT.out⟩
theorem infoE : (Tryz.prog.info? 182).map (fun i => (i.zero, i.size, i.bytes)) = some (some (.agg #[.int .i64 0, .int .i64 0, .int .i64 0]), 3, 24) := by kernel_rfl
set_option maxHeartbeats 2000000 in
theorem clone_entry (v : Value) (rows : List (List Value)) (w : World) (h : Row 3 182 w v rows) (hl : rows.length ≤ 1000) :
    Calls Tryz.prog 126 #[v] w fun e w' => ∃ v', e = .returned v' ∧ Row 3 182 w' v' rows ∧ Below w.heap.size w w' ∧ (v = .slice none 0 0 → v' = .slice none 0 0) := by
  obtain ⟨A, c, rfl, hlc, hC⟩ := Kd.R_reads h
  have HR := Aside0.mk hC
  clear h hC
  have hn := Aside0.mk hl
  clear hl
  cases A with
  | none =>
    have h0 : rows = [] := by
      rcases Nat.eq_zero_or_pos rows.length with h0 | h0
      · exact List.eq_nil_of_length_eq_zero h0
      · obtain ⟨ad, e, _⟩ := HR.out.2.2 h0
        cases e
    subst h0
    have heq := fun W : World => Lib.run_eql_slice_nil (P := Tryz.prog) W 49 182 none 0 c 0 0 Tryz.underlying49
    go_enter Tryz.func126, Tryz.ntmps126
    go_wp2
    go_ret
    exact ⟨_, rfl, Row.nil _ _ _, Below.refl _ _, fun _ => rfl⟩
  | some ad =>
    have heq := fun W : World => Lib.run_eql_slice_nil (P := Tryz.prog) W 49 182 (some ad) rows.length c 0 0 Tryz.underlying49
    go_enter Tryz.func126, Tryz.ntmps126
    go_wp2_with (first | ((with_reducible refine gate_builtin (b := .append) (xs := #[.tmp 5, .tmp 6]) rfl ?_); at_builtin; refine Kd.R_append_rows (Kd.raw 3) (w0 := w) 0 rfl (.tmp 5) (.tmp 6) 49 182 (.agg #[.int .i64 0, .int .i64 0, .int .i64 0]) 24 rfl Tryz.underlying49 infoE rfl (by decide) (by omega) (.slice (some ⟨w.heap.size, 0, none⟩) 0 0) [] rows _ _ _ (fun _ => True) (fun _ => False) rfl rfl (row_empty (blk_new w _)) (Kd.C_alloc HR.out _) (fun _ _ h => h) (fun _ h => h.elim) (fun _ _ => trivial) (below_zero (below_alloc (Below.refl _ _) _)) (Nat.zero_le _) (by have := hn.out; simp only [List.length_nil]; omega) ?_; intro v1 w1 ho hb hg hat; have HO := Aside0.mk ho; have HB := Aside0.mk (below_own (below_alloc (Below.refl _ _) _) hg (fun k e => by simp [Value.ownBlock] at e; omega)); clear ho hb hg hat))
    go_ret
    exact ⟨_, rfl, HO.out, HB.out, fun h => by simp at h⟩
end Go.Proofs.YtgljebaiakhbfaaGreat.Aw
