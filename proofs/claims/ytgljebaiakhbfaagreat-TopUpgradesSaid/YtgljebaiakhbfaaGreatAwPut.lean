/- What this text proves: what slices.Clone tells of numbers and of entries, as cells; the words that the run's proof has in common; no condition. what the store's small functions tell at the blocks of one run; condition: the blocks. what the store's Base and Now tell at the blocks of one run; condition: the blocks. the names of a disk that has no files, and the next fresh one; condition: the blocks. what a disk's functions do at an empty disk; condition: the blocks. what a disk's Append does at an empty disk; condition: the blocks. -/
import Derived.Test.YtgljebaiakhbfaaGreatAwSort
import Derived.Lib.SliceRun
import Derived.BigQuiet
import Derived.Deep.RegionWith
import Derived.Test.YtgljebaiakhbfaaGreatQTopUpgradesyA1
import Derived.Deep.DeepCutAuto
namespace Go.Proofs.YtgljebaiakhbfaaGreat.Aw
open Go.RowKit Go.Maps Go.Sort Go.Shelf Go.Proofs Go.Proofs.YtgljebaiakhbfaaGreatW.PrintWords Go.Proofs.YtgljebaiakhbfaaGreatW.PrintLast Go.Proofs.YtgljebaiakhbfaaGreatW.PrintMore
set_option linter.unusedVariables false
set_option maxRecDepth 100000
/-- A row of the program's own, by its cells. -/
abbrev Row (sz e : Nat) (w : World) (v : Value) (rows : List (List Value)) : Prop := (Kd.raw sz).R e w 0 (fun _ => True) v rows
theorem Row.below {sz e : Nat} {w w' : World} {v : Value} {rows : List (List Value)} (h : Row sz e w v rows) (hb : Below w.heap.size w w') : Row sz e w' v rows := Kd.R_below h hb
theorem Row.nil (sz e : Nat) (w : World) : Row sz e w (.slice none 0 0) [] := Kd.R_nil _ _ _ _ _
/-- A row of nothing that was made. -/
theorem row_empty {sz e g : Nat} {w : World} (h : w.heap[g]? = some (.cells #[] e (0, 0))) : Row sz e w (.slice (some ⟨g, 0, none⟩) 0 0) [] :=
  ⟨fun _ _ => trivial, [], ⟨by simp, .inr ⟨g, 0, #[], rfl, Nat.zero_le _, h, Nat.le_refl _, Nat.zero_le _, by simp, by simp⟩⟩, Reps.none _ _⟩
theorem below_own {w W W1 : World} {v : Value} (h : Below w.heap.size w W) (hg : W.grownBy W1 v.ownBlock) (hv : ∀ k, v.ownBlock = some k → w.heap.size ≤ k) : Below w.heap.size w W1 :=
  h.grown hg h.size (fun k e => hv k e)
theorem blk_is {w : World} {g : Nat} {t : TypeId} {cs cs' : Array Value} (h : w.heap[g]? = some (.cells cs t (0, 0))) (e : cs = cs') : w.heap[g]? = some (.cells cs' t (0, 0)) := e ▸ h
theorem blk_far2 {w : World} {g : Nat} {t : TypeId} {cs : Array Value} {p : Addr} {u : Value} (hp : g ≠ p.block) (h : w.heap[g]? = some (.cells cs t (0, 0))) : (w.setCell p u).heap[g]? = some (.cells cs t (0, 0)) := blk_far h hp u
theorem Row.set {sz e : Nat} {w : World} {v : Value} {rows : List (List Value)} (h : Row sz e w v rows) {g t : Nat} {cells : Array Value} (hb : w.heap[g]? = some (.cells cells t (0, 0))) (ht : e ≠ t) (j : Nat) (u : Value) : Row sz e (w.setCell ⟨g, j, none⟩ u) v rows :=
  Kd.R_set h hb (fun q hq => by
    have : q = e := by simpa [Kd.raw] using hq
    rw [this]; exact ht) j u
theorem Row.set2 {sz e : Nat} {w : World} {v : Value} {rows : List (List Value)} {g t j : Nat} {u : Value} {cells : Array Value} (hb : w.heap[g]? = some (.cells cells t (0, 0))) (ht : e ≠ t) (h : Row sz e w v rows) : Row sz e (w.setCell ⟨g, j, none⟩ u) v rows := h.set hb ht j u
theorem Row.alloc {sz e : Nat} {w : World} {v : Value} {rows : List (List Value)} {o : Obj} (h : Row sz e w v rows) : Row sz e (w.alloc o) v rows := Kd.R_alloc h o
theorem Row.drew {sz e : Nat} {w : World} {v : Value} {rows : List (List Value)} (h : Row sz e w v rows) : Row sz e w.drew v rows := Kd.R_drew h
theorem Row.drewN {sz e n : Nat} {w : World} {v : Value} {rows : List (List Value)} (h : Row sz e w v rows) : Row sz e (w.drewN n) v rows := Kd.R_drewN h n
theorem below_kept {w0 w w' : World} {S : Nat → Prop} (h : Below w0.heap.size w0 w) (k : Kept w w' S) (z : Below 0 w w') (hS : ∀ k, S k → w0.heap.size ≤ k) : Below w0.heap.size w0 w' :=
  ⟨z.os.trans h.os, z.tape.trans h.tape, z.output.trans h.output, Nat.le_trans h.size k.1, fun i hi => (k.2 i (Nat.lt_of_lt_of_le hi h.size) (fun hs => absurd (hS i hs) (by omega))).trans (h.block i hi)⟩
theorem below_zero {w W : World} {b : Nat} (h : Below b w W) : Below 0 w W := h.mono (Nat.zero_le _)
theorem infoI : (Tryz.prog.info? 3).map (fun i => (i.zero, i.size, i.bytes)) = some (some (.int .i64 0), 1, 8) := by kernel_rfl
section
variable {P : Program} {ops : Array Oper} {rest : List Oper} {o : Oper} {a : Act} {Q : Exit → Act → World → Prop}
/-- append(nil, x). -/
theorem nil_append {W : World} {sz e : Nat} (hgd : o.guard = none) (s x : Operand) (t : TypeId) (z : Value) (bytes : Nat)
    (ho : o.op = .call { callee := .builtin .append, args := #[s, x], argTypes := #[t, t] })
    (ht : P.underlying t = some (.slice e)) (hinfo : (P.info? e).map (fun i => (i.zero, i.size, i.bytes)) = some (some z, sz, bytes)) (hz : z.cells.size = sz) (hs0 : 0 < sz) (hb0 : 0 < bytes)
    (cs : List Value) (hcl : cs.length = sz) (hone : ∀ u ∈ cs, u.oneCell' = true) (hs : a.eval s = .slice none 0 0) (hx : a.eval x = .slice (some ⟨W.heap.size, 0, none⟩) 1 1) (hl : bytes ≤ 140737488355328)
    (h : ∀ A c w1, Row sz e w1 (.slice A 1 c) [cs] → Below W.heap.size W w1 → wpList P ops Q rest (a.put o.dst (.slice A 1 c)) w1) :
    wpList P ops Q (o :: rest) a (W.alloc (.cells cs.toArray e)) :=
  Kd.R_append (Kd.raw sz) (w0 := W) 0 hgd s x t e z bytes ho ht hinfo hz hs0 hb0 (.slice none 0 0) [] cs cs (fun _ => True) (fun _ => False) hs hx ⟨rfl, hcl, hone⟩ (fun _ hk => hk.elim) (fun _ _ => trivial)
    (Kd.R_nil _ _ _ _ _) (below_zero (Below.refl 0 W)) (Nat.zero_le _) (by simpa using hl) (fun v1 w1 hr _ hg _ => by
      obtain ⟨A, c, rfl⟩ := Kd.R_slice hr
      exact h A c w1 hr (below_own (Below.refl _ _) hg (fun k e => by simp [Value.ownBlock] at e)))
/-- append(nil, l...). -/
theorem nil_append_rows {W : World} {sz e : Nat} (hgd : o.guard = none) (s x : Operand) (t : TypeId) (z : Value) (bytes : Nat)
    (ho : o.op = .call { callee := .builtin .append, args := #[s, x], argTypes := #[t, t] })
    (ht : P.underlying t = some (.slice e)) (hinfo : (P.info? e).map (fun i => (i.zero, i.size, i.bytes)) = some (some z, sz, bytes)) (hz : z.cells.size = sz) (hs0 : 0 < sz) (hb0 : 0 < bytes)
    (A0 : Option Addr) (m c0 : Nat) (rows : List (List Value)) (hr0 : (Kd.raw sz).C W A0 m rows) (hs : a.eval s = .slice none 0 0) (hx : a.eval x = .slice A0 m c0) (hl : m * bytes ≤ 140737488355328)
    (h : ∀ A c w1, Row sz e w1 (.slice A rows.length c) rows → Below W.heap.size W w1 → wpList P ops Q rest (a.put o.dst (.slice A rows.length c)) w1) :
    wpList P ops Q (o :: rest) a W :=
  Kd.R_append_rows (Kd.raw sz) (w0 := W) 0 hgd s x t e z bytes ho ht hinfo hz hs0 hb0 (.slice none 0 0) [] rows A0 m c0 (fun _ => True) (fun _ => False) hs hx
    (Kd.R_nil _ _ _ _ _) hr0 (fun _ _ h => h) (fun _ hk => hk.elim) (fun _ _ => trivial) (below_zero (Below.refl 0 W)) (Nat.zero_le _) (by simpa using hl) (fun v1 w1 hr _ hg _ => by
      obtain ⟨A, c, rfl⟩ := Kd.R_slice hr
      exact h A c w1 hr (below_own (Below.refl _ _) hg (fun k e => by simp [Value.ownBlock] at e)))
end
set_option maxHeartbeats 2000000 in
theorem clone_int (v : Value) (rows : List (List Value)) (w : World) (h : Row 1 3 w v rows) (hl : rows.length ≤ 1000) :
    Calls Tryz.prog 125 #[v] w fun e w' => ∃ v', e = .returned v' ∧ Row 1 3 w' v' rows ∧ Below w.heap.size w w' ∧ (∀ k, v'.ownBlock = some k → w.heap.size ≤ k) := by
  obtain ⟨A, c, rfl, hlc, hC⟩ := Kd.R_reads h
  have HR := Aside0.mk hC
  clear h hC
  have hn := Aside0.mk hl
  clear hl
  cases A with
  | none =>
    have h0 : rows = [] := by
      rcases Nat.eq_zero_or_pos rows.length with h0 | h0
      · exact List.eq_nil_of_length_eq_zero h0
      · obtain ⟨ad, e, _⟩ := HR.out.2.2 h0
        cases e
    subst h0
    have heq := fun W : World => Lib.run_eql_slice_nil (P := Tryz.prog) W 34 3 none 0 c 0 0 Tryz.underlying34
    go_enter Tryz.func125, Tryz.ntmps125
    go_wp2
    go_ret
    exact ⟨_, rfl, Row.nil _ _ _, Below.refl _ _, fun k hk => by simp [Value.ownBlock] at hk⟩
  | some ad =>
    have heq := fun W : World => Lib.run_eql_slice_nil (P := Tryz.prog) W 34 3 (some ad) rows.length c 0 0 Tryz.underlying34
    go_enter Tryz.func125, Tryz.ntmps125
    go_wp2_with (first | ((with_reducible refine gate_builtin (b := .append) (xs := #[.tmp 5, .tmp 6]) rfl ?_); at_builtin; refine Kd.R_append_rows (Kd.raw 1) (w0 := w) 0 rfl (.tmp 5) (.tmp 6) 34 3 (.int .i64 0) 8 rfl Tryz.underlying34 infoI rfl (by decide) (by omega) (.slice (some ⟨w.heap.size, 0, none⟩) 0 0) [] rows _ _ _ (fun _ => True) (fun _ => False) rfl rfl (row_empty (blk_new w _)) (Kd.C_alloc HR.out _) (fun _ _ h => h) (fun _ h => h.elim) (fun _ _ => trivial) (below_zero (below_alloc (Below.refl _ _) _)) (Nat.zero_le _) (by have := hn.out; simp only [List.length_nil]; omega) ?_; intro v1 w1 ho hb hg hat; have HO := Aside0.mk ho; have HB := Aside0.mk (below_own (below_alloc (Below.refl _ _) _) hg (fun k e => by simp [Value.ownBlock] at e; omega)); have HT := Aside0.mk (show ∀ k, v1.ownBlock = some k → w.heap.size ≤ k from fun k hk => by (rcases hat with h | ⟨b, h, h2⟩); (focus (have h3 := hk.symm.trans h; simp [Value.ownBlock] at h3; omega)); (have h3 := hk.symm.trans h; simp only [Option.some.injEq] at h3; simp at h2; omega)); clear ho hb hg hat))
    go_ret
    exact ⟨_, rfl, HO.out, HB.out, HT.out⟩
theorem infoE : (Tryz.prog.info? 182).map (fun i => (i.zero, i.size, i.bytes)) = some (some (.agg #[.int .i64 0, .int .i64 0, .int .i64 0]), 3, 24) := by kernel_rfl
set_option maxHeartbeats 2000000 in
theorem clone_entry (v : Value) (rows : List (List Value)) (w : World) (h : Row 3 182 w v rows) (hl : rows.length ≤ 1000) :
    Calls Tryz.prog 126 #[v] w fun e w' => ∃ v', e = .returned v' ∧ Row 3 182 w' v' rows ∧ Below w.heap.size w w' ∧ (v = .slice none 0 0 → v' = .slice none 0 0) := by
  obtain ⟨A, c, rfl, hlc, hC⟩ := Kd.R_reads h
  have HR := Aside0.mk hC
  clear h hC
  have hn := Aside0.mk hl
  clear hl
  cases A with
  | none =>
    have h0 : rows = [] := by
      rcases Nat.eq_zero_or_pos rows.length with h0 | h0
      · exact List.eq_nil_of_length_eq_zero h0
      · obtain ⟨ad, e, _⟩ := HR.out.2.2 h0
        cases e
    subst h0
    have heq := fun W : World => Lib.run_eql_slice_nil (P := Tryz.prog) W 49 182 none 0 c 0 0 Tryz.underlying49
    go_enter Tryz.func126, Tryz.ntmps126
    go_wp2
    go_ret
    exact ⟨_, rfl, Row.nil _ _ _, Below.refl _ _, fun _ => rfl⟩
  | some ad =>
    have heq := fun W : World => Lib.run_eql_slice_nil (P := Tryz.prog) W 49 182 (some ad) rows.length c 0 0 Tryz.underlying49
    go_enter Tryz.func126, Tryz.ntmps126
    go_wp2_with (first | ((with_reducible refine gate_builtin (b := .append) (xs := #[.tmp 5, .tmp 6]) rfl ?_); at_builtin; refine Kd.R_append_rows (Kd.raw 3) (w0 := w) 0 rfl (.tmp 5) (.tmp 6) 49 182 (.agg #[.int .i64 0, .int .i64 0, .int .i64 0]) 24 rfl Tryz.underlying49 infoE rfl (by decide) (by omega) (.slice (some ⟨w.heap.size, 0, none⟩) 0 0) [] rows _ _ _ (fun _ => True) (fun _ => False) rfl rfl (row_empty (blk_new w _)) (Kd.C_alloc HR.out _) (fun _ _ h => h) (fun _ h => h.elim) (fun _ _ => trivial) (below_zero (below_alloc (Below.refl _ _) _)) (Nat.zero_le _) (by have := hn.out; simp only [List.length_nil]; omega) ?_; intro v1 w1 ho hb hg hat; have HO := Aside0.mk ho; have HB := Aside0.mk (below_own (below_alloc (Below.refl _ _) _) hg (fun k e => by simp [Value.ownBlock] at e; omega)); clear ho hb hg hat))
    go_ret
    exact ⟨_, rfl, HO.out, HB.out, fun h => by simp at h⟩
end Go.Proofs.YtgljebaiakhbfaaGreat.Aw
namespace Go.Proofs.YtgljebaiakhbfaaGreat.Aw
open Go.RowKit Go.Maps Go.Sort Go.Shelf Go.Proofs Go.Proofs.YtgljebaiakhbfaaGreatW.PrintWords Go.Proofs.YtgljebaiakhbfaaGreatW.PrintLast Go.Proofs.YtgljebaiakhbfaaGreatW.PrintMore
set_option linter.unusedVariables false
set_option maxRecDepth 100000
set_option maxHeartbeats 2000000
theorem on_calls (d : Nat) (a0 a1 a2 a3 a5 a6 : Value) (out : Bool) (w : World) (hD : w.heap[d]? = some (.cells #[a0, a1, a2, a3, .bool out, a5, a6] 108 (0, 0))) :
    Calls Tryz.prog 56 #[.pointer (some ⟨d, 0, none⟩)] w fun e w' => e = .returned (.bool (!out)) ∧ Below w.heap.size w w' := by
  have hc := fun i => blk_cell hD i
  have hd := fun i => blk_frozen hD i
  go_enter Tryz.func56, Tryz.ntmps56
  go_wp2
  go_ret
  exact ⟨rfl, Below.refl _ _⟩
/-- A store's block. -/
abbrev StoreAt (w : World) (s : Nat) (disk kind bases pieces log first synced n0 n1 n2 n3 n4 n5 cur named : Value) : Prop :=
  w.heap[s]? = some (.cells #[disk, kind, bases, pieces, log, first, synced, n0, n1, n2, n3, n4, n5, cur, named] 115 (0, 0))
theorem next_calls (s n : Nat) (c : Nat) (A : Option Addr) (f : Int) (disk kind bases pieces synced n0 n1 n2 n3 n4 n5 cur named : Value) (w : World)
    (hS : StoreAt w s disk kind bases pieces (.slice A n c) (.int .i64 f) synced n0 n1 n2 n3 n4 n5 cur named) :
    Calls Tryz.prog 60 #[.pointer (some ⟨s, 0, none⟩)] w fun e w' => e = .returned (.int .i64 (wrap64 (f + n))) ∧ Below w.heap.size w w' := by
  have hc := fun i => blk_cell hS i
  have hd := fun i => blk_frozen hS i
  go_enter Tryz.func60, Tryz.ntmps60
  go_wp2
  go_quiet (fail)
  go_wp2
  go_ret
  exact ⟨by simp, pw_below_drewN (Below.refl _ _) _⟩
/-- A snapshot as a value. -/
abbrev snapV (i k : Int) (A : Option Addr) (n c : Nat) (s : Bool) (t : Int) (B : Option Addr) (m d : Nat) : Value := .agg #[.int .i64 i, .int .i64 k, .slice A n c, .bool s, .int .i64 t, .slice B m d]
abbrev SnapAt (w : World) (b : Nat) (i k : Int) (A : Option Addr) (n c : Nat) (s : Bool) (t : Int) (B : Option Addr) (m d : Nat) : Prop :=
  w.heap[b]? = some (.cells #[.int .i64 i, .int .i64 k, .slice A n c, .bool s, .int .i64 t, .slice B m d] 51 (0, 0))
theorem last_calls (b : Nat) (i k : Int) (A : Option Addr) (n c : Nat) (s : Bool) (t : Int) (B : Option Addr) (m d : Nat) (w : World) (hB : SnapAt w b i k A n c s t B m d) :
    Calls Tryz.prog 99 #[.slice (some ⟨b, 0, none⟩) 1 1] w fun e w' => e = .returned (.tuple #[snapV i k A n c s t B m d, .bool true]) ∧ Below w.heap.size w w' := by
  have hc := fun i => blk_cell hB i
  have hd := fun i => blk_frozen hB i
  have hlt := blk_lt hB
  have hne : b ≠ w.heap.size := by omega
  go_enter Tryz.func99, Tryz.ntmps99
  go_wp2
  refine bodyPost_ret (results_ct rfl _ _ w.heap.size 51 _ (0, 0) _ rfl (blk_new w _) Tryz.underlying51 rfl (by kernel_rfl)) rfl ?_
  exact ⟨rfl, below_alloc (Below.refl _ _) _⟩
/-- What owned tells: the same with rows of its own. -/
abbrev OwnSnap (base : Nat) (w' : World) (i k : Int) (s : Bool) (t : Int) (rs es : List (List Value)) (v : Value) : Prop :=
  ∃ A n c B m d, v = snapV i k A n c s t B m d ∧ Row 1 3 w' (.slice A n c) rs ∧ Row 3 182 w' (.slice B m d) es ∧ (es = [] → Value.slice B m d = .slice none 0 0) ∧ (∀ k, (Value.slice A n c).ownBlock = some k → base ≤ k)
theorem owned_calls (i k : Int) (A : Option Addr) (n c : Nat) (s : Bool) (t : Int) (B : Option Addr) (m d : Nat) (rs es : List (List Value)) (w : World)
    (hL : Row 1 3 w (.slice A n c) rs) (hT : Row 3 182 w (.slice B m d) es) (hrs : rs.length ≤ 1000) (hes : es.length ≤ 1000) (hE : es = [] → Value.slice B m d = .slice none 0 0) :
    Calls Tryz.prog 86 #[snapV i k A n c s t B m d] w fun e w' => (∃ v, e = .returned v ∧ OwnSnap w.heap.size w' i k s t rs es v) ∧ Below w.heap.size w w' := by
  have HL := Aside0.mk hL
  have HT := Aside0.mk hT
  clear hL hT
  go_enter Tryz.func86, Tryz.ntmps86
  go_wp2
  obtain ⟨wb, hwb⟩ : ∃ wb, ((w.alloc (.cells #[.int .i64 i, .int .i64 k, .slice A n c, .bool s, .int .i64 t, .slice B m d] 51)).alloc (.cells #[.int .i64 0, .int .i64 0, .slice none 0 0, .bool false, .int .i64 0, .slice none 0 0] 51)) = wb := ⟨_, rfl⟩
  have hG1 : wb.heap[w.heap.size]? = some (.cells #[.int .i64 i, .int .i64 k, .slice A n c, .bool s, .int .i64 t, .slice B m d] 51 (0, 0)) := by rw [← hwb]; exact blk_alloc (blk_new w _) _
  have hG2 : wb.heap[w.heap.size + 1]? = some (.cells #[.int .i64 0, .int .i64 0, .slice none 0 0, .bool false, .int .i64 0, .slice none 0 0] 51 (0, 0)) := by rw [← hwb]; have := blk_new (w.alloc (.cells #[.int .i64 i, .int .i64 k, .slice A n c, .bool s, .int .i64 t, .slice B m d] 51)) (.cells #[.int .i64 0, .int .i64 0, .slice none 0 0, .bool false, .int .i64 0, .slice none 0 0] 51); rwa [World.size_alloc] at this
  have hBw : Below w.heap.size w wb := by rw [← hwb]; exact below_alloc (below_alloc (Below.refl _ _) _) _
  rw [hwb]
  clear hwb
  have HLb := Aside0.mk (HL.out.below hBw)
  have HTb := Aside0.mk (HT.out.below hBw)
  have HBw := Aside0.mk hBw
  clear HL HT hBw
  have hc := fun i => blk_cell hG1 i
  have hd := fun i => blk_frozen hG1 i
  go_region_with (first
    | (go_at_call 125; refine (clone_int _ rs _ (HLb.out.below (by (repeat (first | exact Below.refl _ _ | apply below_drew1 | apply pw_below_drewN)))) hrs).mono ?_; rintro e w1 ⟨v1, rfl, ho, hb, hf⟩; replace hb := below_step (w := wb) (by (repeat (first | exact Below.refl _ _ | apply below_drew1 | apply pw_below_drewN))) hb; obtain ⟨A1, c1, rfl⟩ := Kd.R_slice ho; have HFr := Aside0.mk (fun k hk => Nat.le_trans (Nat.le_trans HBw.out.size (by (repeat (first | exact Below.refl _ _ | apply below_drew1 | apply pw_below_drewN)) : Below wb.heap.size wb _).size) (hf k hk)); clear hf; have HL1 := Aside0.mk ho; have HB1 := Aside0.mk hb; have hG11 := blk_below hG1 hb; have hG21 := blk_below hG2 hb; have hc1 := (fun i => blk_cell hG11 i); have hd1 := (fun i => blk_frozen hG11 i); clear ho hb)
    | (go_at_call 126; refine (clone_entry _ es _ ((HTb.out.below HB1.out).below (by (repeat (first | exact Below.refl _ _ | apply below_drew1 | apply pw_below_drewN)))) hes).mono ?_; rintro e w2 ⟨v2, rfl, ho, hb, hz⟩; replace hb := below_step (w := w1) (by (repeat (first | exact Below.refl _ _ | apply below_drew1 | apply pw_below_drewN))) hb; obtain ⟨A2, c2, rfl⟩ := Kd.R_slice ho; have HT1 := Aside0.mk ho; have HZ := Aside0.mk hz; clear hz; have HB2 := Aside0.mk hb; have hG12 := blk_below hG11 hb; have hG22 := blk_below hG21 hb; have hc2 := (fun i => blk_cell hG12 i); have hd2 := (fun i => blk_frozen hG12 i);  clear ho hb))
  all_goals
    obtain ⟨w3, hw3⟩ : ∃ w3, ((w2.setCell ⟨w.heap.size, 2, none⟩ (.slice A1 rs.length c1)).setCell ⟨w.heap.size, 5, none⟩ (.slice A2 es.length c2)) = w3 := ⟨_, rfl⟩
    have hG13 : w3.heap[w.heap.size]? = some (.cells #[.int .i64 i, .int .i64 k, .slice A1 rs.length c1, .bool s, .int .i64 t, .slice A2 es.length c2] 51 (0, 0)) := by rw [← hw3]; (apply blk_is; (focus (repeat (first | (with_reducible exact hG12) | (with_reducible apply blk_alloc) | (with_reducible apply blk_drew) | (with_reducible apply blk_drewN) | (with_reducible apply blk_set) | ((with_reducible apply blk_far2); (focus (first | omega | (simp; done) | (simp; omega))))))); (focus rfl))
    have hG23 : w3.heap[w.heap.size + 1]? = some (.cells #[.int .i64 0, .int .i64 0, .slice none 0 0, .bool false, .int .i64 0, .slice none 0 0] 51 (0, 0)) := by rw [← hw3]; (apply blk_is; (focus (repeat (first | (with_reducible exact hG22) | (with_reducible apply blk_alloc) | (with_reducible apply blk_drew) | (with_reducible apply blk_drewN) | (with_reducible apply blk_set) | ((with_reducible apply blk_far2); (focus (first | omega | (simp; done) | (simp; omega))))))); (focus rfl))
    have hB3 : Below w.heap.size w w3 := by rw [← hw3]; exact below_set (below_set (below_step (below_step HBw.out HB1.out) HB2.out) (Nat.le_refl _)) (Nat.le_refl _)
    have hL3 : Row 1 3 w3 (.slice A1 rs.length c1) rs := by rw [← hw3]; (repeat (first | (with_reducible exact (HL1.out.below HB2.out)) | (with_reducible apply Row.alloc) | (with_reducible apply Row.drew) | (with_reducible apply Row.drewN) | ((with_reducible apply Row.set2); (focus (repeat (first | (with_reducible exact hG12) | (with_reducible apply blk_alloc) | (with_reducible apply blk_drew) | (with_reducible apply blk_drewN) | (with_reducible apply blk_set) | ((with_reducible apply blk_far2); (focus (first | omega | (simp; done) | (simp; omega))))))); (focus decide))))
    have hT3 : Row 3 182 w3 (.slice A2 es.length c2) es := by rw [← hw3]; (repeat (first | (with_reducible exact HT1.out) | (with_reducible apply Row.alloc) | (with_reducible apply Row.drew) | (with_reducible apply Row.drewN) | ((with_reducible apply Row.set2); (focus (repeat (first | (with_reducible exact hG12) | (with_reducible apply blk_alloc) | (with_reducible apply blk_drew) | (with_reducible apply blk_drewN) | (with_reducible apply blk_set) | ((with_reducible apply blk_far2); (focus (first | omega | (simp; done) | (simp; omega))))))); (focus decide))))
    rw [hw3]
    clear hw3
    have hc3 := fun i => blk_cell hG13 i
    have hc4 := fun i => blk_cell hG23 i
    have hd3 := fun i => blk_frozen hG23 i
    have hn3 : w.heap.size ≠ w.heap.size + 1 := by omega
    have HF := Aside0.mk (And.intro hB3 (And.intro hL3 hT3))
    clear HLb HTb HBw HL1 HB1 HT1 HB2 hB3 hL3 hT3 hG12 hG22 hG11 hG21 hG1 hG2 hc hd hc1 hd1 hc2 hd2
    go_wp2
    refine bodyPost_ret (results_cell_row rfl _ _ (w.heap.size + 1) 51 #[.int .i64 i, .int .i64 k, .slice A1 rs.length c1, .bool s, .int .i64 t, .slice A2 es.length c2] (0, 0) _ rfl (by (apply blk_is; (focus (repeat (first | (with_reducible exact hG23) | (with_reducible apply blk_alloc) | (with_reducible apply blk_drew) | (with_reducible apply blk_drewN) | (with_reducible apply blk_set) | ((with_reducible apply blk_far2); (focus (first | omega | (simp; done) | (simp; omega))))))); (focus rfl))) Tryz.underlying51 rfl (by kernel_rfl)) rfl ?_
    refine ⟨⟨_, rfl, A1, rs.length, c1, A2, es.length, c2, rfl, ?_, ?_, fun h => HZ.out (hE h), HFr.out⟩, ?_⟩
    · (repeat (first | (with_reducible exact HF.out.2.1) | (with_reducible apply Row.alloc) | (with_reducible apply Row.drew) | (with_reducible apply Row.drewN) | ((with_reducible apply Row.set2); (focus (repeat (first | (with_reducible exact hG23) | (with_reducible apply blk_alloc) | (with_reducible apply blk_drew) | (with_reducible apply blk_drewN) | (with_reducible apply blk_set) | ((with_reducible apply blk_far2); (focus (first | omega | (simp; done) | (simp; omega))))))); (focus decide))))
    · (repeat (first | (with_reducible exact HF.out.2.2) | (with_reducible apply Row.alloc) | (with_reducible apply Row.drew) | (with_reducible apply Row.drewN) | ((with_reducible apply Row.set2); (focus (repeat (first | (with_reducible exact hG23) | (with_reducible apply blk_alloc) | (with_reducible apply blk_drew) | (with_reducible apply blk_drewN) | (with_reducible apply blk_set) | ((with_reducible apply blk_far2); (focus (first | omega | (simp; done) | (simp; omega))))))); (focus decide))))
    · repeat (first | (with_reducible exact HF.out.1) | refine below_set ?_ (by omega))
end Go.Proofs.YtgljebaiakhbfaaGreat.Aw
namespace Go.Proofs.YtgljebaiakhbfaaGreat.Aw
open Go.RowKit Go.Maps Go.Sort Go.Shelf Go.Proofs Go.Proofs.YtgljebaiakhbfaaGreatW.PrintWords Go.Proofs.YtgljebaiakhbfaaGreatW.PrintLast Go.Proofs.YtgljebaiakhbfaaGreatW.PrintMore
set_option linter.unusedVariables false
set_option maxRecDepth 100000
set_option maxHeartbeats 2000000
theorem now_calls (s : Nat) (disk kind bases pieces log first synced cur named : Value) (i k : Int) (A : Option Addr) (n c : Nat) (sl : Bool) (t : Int) (B : Option Addr) (m d : Nat) (rs es : List (List Value)) (w : World)
    (hS : StoreAt w s disk kind bases pieces log first synced (.int .i64 i) (.int .i64 k) (.slice A n c) (.bool sl) (.int .i64 t) (.slice B m d) cur named)
    (hL : Row 1 3 w (.slice A n c) rs) (hT : Row 3 182 w (.slice B m d) es) (hrs : rs.length ≤ 1000) (hes : es.length ≤ 1000) (hE : es = [] → Value.slice B m d = .slice none 0 0) :
    Calls Tryz.prog 40 #[.pointer (some ⟨s, 0, none⟩)] w fun e w' => (∃ v, e = .returned v ∧ OwnSnap w.heap.size w' i k sl t rs es v) ∧ Below w.heap.size w w' := by
  have hc := fun i => blk_cell hS i
  have hd := fun i => blk_frozen hS i
  have hlt := blk_lt hS
  have hne : s ≠ w.heap.size := by omega
  have HL := Aside0.mk hL
  have HT := Aside0.mk hT
  have HS := Aside0.mk hS
  clear hL hT hS
  go_enter Tryz.func40, Tryz.ntmps40
  go_wp2_with (go_at_call 86; refine (owned_calls i k A n c sl t B m d rs es _ (HL.out.below (by (repeat (first | (with_reducible exact Below.refl _ _) | (with_reducible apply below_alloc) | (with_reducible apply below_drew1) | (with_reducible apply pw_below_drewN))))) (HT.out.below (by (repeat (first | (with_reducible exact Below.refl _ _) | (with_reducible apply below_alloc) | (with_reducible apply below_drew1) | (with_reducible apply pw_below_drewN))))) hrs hes hE).mono ?_; rintro e w1 ⟨⟨v, rfl, ⟨A1, n1, c1, B1, m1, d1, rfl, ho1, ho2, hz, hf⟩⟩, hb⟩; have HFr := Aside0.mk (fun k hk => Nat.le_trans (by (repeat (first | (with_reducible exact Below.refl _ _) | (with_reducible apply below_alloc) | (with_reducible apply below_drew1) | (with_reducible apply pw_below_drewN))) : Below w.heap.size w _).size (hf k hk)); clear hf; have hG := blk_below (blk_new w _) hb; have hcG := (fun i => blk_cell hG i); have hdG := (fun i => blk_frozen hG i); have HL1 := Aside0.mk ho1; have HT1 := Aside0.mk ho2; have HB := Aside0.mk (below_step (by (repeat (first | (with_reducible exact Below.refl _ _) | (with_reducible apply below_alloc) | (with_reducible apply below_drew1) | (with_reducible apply pw_below_drewN)))) hb : Below w.heap.size w w1); clear ho1 ho2 hb)
  refine bodyPost_ret (results_cell_row rfl _ _ w.heap.size 51 #[.int .i64 i, .int .i64 k, .slice A1 n1 c1, .bool sl, .int .i64 t, .slice B1 m1 d1] (0, 0) _ rfl (by (apply blk_is; (focus (repeat (first | (with_reducible exact hG) | (with_reducible apply blk_alloc) | (with_reducible apply blk_drew) | (with_reducible apply blk_drewN) | (with_reducible apply blk_set) | ((with_reducible apply blk_far2); (focus (first | omega | (simp; done) | (simp; omega))))))); (focus rfl))) Tryz.underlying51 rfl (by kernel_rfl)) rfl ?_
  refine ⟨⟨_, rfl, A1, n1, c1, B1, m1, d1, rfl, ?_, ?_, hz, HFr.out⟩, ?_⟩
  · (repeat (first | (with_reducible exact HL1.out) | (with_reducible apply Row.alloc) | (with_reducible apply Row.drew) | (with_reducible apply Row.drewN) | ((with_reducible apply Row.set2); (focus (repeat (first | (with_reducible exact hG) | (with_reducible apply blk_alloc) | (with_reducible apply blk_drew) | (with_reducible apply blk_drewN) | (with_reducible apply blk_set) | ((with_reducible apply blk_far2); (focus (first | omega | (simp; done) | (simp; omega))))))); (focus decide))))
  · (repeat (first | (with_reducible exact HT1.out) | (with_reducible apply Row.alloc) | (with_reducible apply Row.drew) | (with_reducible apply Row.drewN) | ((with_reducible apply Row.set2); (focus (repeat (first | (with_reducible exact hG) | (with_reducible apply blk_alloc) | (with_reducible apply blk_drew) | (with_reducible apply blk_drewN) | (with_reducible apply blk_set) | ((with_reducible apply blk_far2); (focus (first | omega | (simp; done) | (simp; omega))))))); (focus decide))))
  · repeat (first | (with_reducible exact HB.out) | refine below_set ?_ (by omega))
theorem base_calls (s b : Nat) (disk kind pieces log first synced n0 n1 n2 n3 n4 n5 cur named : Value) (i k : Int) (A : Option Addr) (n c : Nat) (sl : Bool) (t : Int) (B : Option Addr) (m d : Nat) (rs es : List (List Value)) (w : World)
    (hS : StoreAt w s disk kind (.slice (some ⟨b, 0, none⟩) 1 1) pieces log first synced n0 n1 n2 n3 n4 n5 cur named) (hB : SnapAt w b i k A n c sl t B m d)
    (hL : Row 1 3 w (.slice A n c) rs) (hT : Row 3 182 w (.slice B m d) es) (hrs : rs.length ≤ 1000) (hes : es.length ≤ 1000) (hE : es = [] → Value.slice B m d = .slice none 0 0) :
    Calls Tryz.prog 59 #[.pointer (some ⟨s, 0, none⟩)] w fun e w' => (∃ v, e = .returned v ∧ OwnSnap w.heap.size w' i k sl t rs es v) ∧ Below w.heap.size w w' := by
  have hc := fun i => blk_cell hS i
  have hd := fun i => blk_frozen hS i
  have hlt := blk_lt hS
  have hne : s ≠ w.heap.size := by omega
  have HL := Aside0.mk hL
  have HT := Aside0.mk hT
  have HS := Aside0.mk hS
  have HSn := Aside0.mk hB
  clear hL hT hS hB
  go_enter Tryz.func59, Tryz.ntmps59
  go_wp2_with (first
    | (go_at_call 99; refine (last_calls b i k A n c sl t B m d _ (by (repeat (first | (with_reducible exact HSn.out) | (with_reducible apply blk_alloc) | (with_reducible apply blk_drew) | (with_reducible apply blk_drewN) | (with_reducible apply blk_set) | ((with_reducible apply blk_far2); (focus (first | omega | (simp; done) | (simp; omega)))))))).mono ?_; rintro e w0 ⟨rfl, hb⟩; have hG0 := blk_below (blk_new w _) hb; have hcG0 := (fun i => blk_cell hG0 i); have hdG0 := (fun i => blk_frozen hG0 i); have hlt0 := blk_lt hG0; have hne0 := Nat.ne_of_lt hlt0; have HB0 := Aside0.mk (below_step (by (repeat (first | (with_reducible exact Below.refl _ _) | (with_reducible apply below_alloc) | (with_reducible apply below_drew1) | (with_reducible apply pw_below_drewN)))) hb : Below w.heap.size w w0); clear hb)
    | (go_at_call 86; refine (owned_calls i k A n c sl t B m d rs es _ ((HL.out.below HB0.out).below (by (repeat (first | (with_reducible exact Below.refl _ _) | (with_reducible apply below_alloc) | (with_reducible apply below_drew1) | (with_reducible apply pw_below_drewN))))) ((HT.out.below HB0.out).below (by (repeat (first | (with_reducible exact Below.refl _ _) | (with_reducible apply below_alloc) | (with_reducible apply below_drew1) | (with_reducible apply pw_below_drewN))))) hrs hes hE).mono ?_; rintro e w1 ⟨⟨v, rfl, ⟨A1, n1, c1, B1, m1, d1, rfl, ho1, ho2, hz, hf⟩⟩, hb⟩; have HFr := Aside0.mk (fun k hk => Nat.le_trans HB0.out.size (Nat.le_trans (by (repeat (first | (with_reducible exact Below.refl _ _) | (with_reducible apply below_alloc) | (with_reducible apply below_drew1) | (with_reducible apply pw_below_drewN))) : Below w0.heap.size w0 _).size (hf k hk))); clear hf; have hb0 := (below_step (by (repeat (first | (with_reducible exact Below.refl _ _) | (with_reducible apply below_alloc) | (with_reducible apply below_drew1) | (with_reducible apply pw_below_drewN)))) hb : Below w0.heap.size w0 w1); have hG := blk_below hG0 hb0; have hcG := (fun i => blk_cell hG i); have hdG := (fun i => blk_frozen hG i); have HL1 := Aside0.mk ho1; have HT1 := Aside0.mk ho2; have HB := Aside0.mk (below_step HB0.out hb0); clear ho1 ho2 hb hb0))
  refine bodyPost_ret (results_cell_row rfl _ _ w.heap.size 51 #[.int .i64 i, .int .i64 k, .slice A1 n1 c1, .bool sl, .int .i64 t, .slice B1 m1 d1] (0, 0) _ rfl (by (apply blk_is; (focus (repeat (first | (with_reducible exact hG) | (with_reducible apply blk_alloc) | (with_reducible apply blk_drew) | (with_reducible apply blk_drewN) | (with_reducible apply blk_set) | ((with_reducible apply blk_far2); (focus (first | omega | (simp; done) | (simp; omega))))))); (focus rfl))) Tryz.underlying51 rfl (by kernel_rfl)) rfl ?_
  refine ⟨⟨_, rfl, A1, n1, c1, B1, m1, d1, rfl, ?_, ?_, hz, HFr.out⟩, ?_⟩
  · (repeat (first | (with_reducible exact HL1.out) | (with_reducible apply Row.alloc) | (with_reducible apply Row.drew) | (with_reducible apply Row.drewN) | ((with_reducible apply Row.set2); (focus (repeat (first | (with_reducible exact hG) | (with_reducible apply blk_alloc) | (with_reducible apply blk_drew) | (with_reducible apply blk_drewN) | (with_reducible apply blk_set) | ((with_reducible apply blk_far2); (focus (first | omega | (simp; done) | (simp; omega))))))); (focus decide))))
  · (repeat (first | (with_reducible exact HT1.out) | (with_reducible apply Row.alloc) | (with_reducible apply Row.drew) | (with_reducible apply Row.drewN) | ((with_reducible apply Row.set2); (focus (repeat (first | (with_reducible exact hG) | (with_reducible apply blk_alloc) | (with_reducible apply blk_drew) | (with_reducible apply blk_drewN) | (with_reducible apply blk_set) | ((with_reducible apply blk_far2); (focus (first | omega | (simp; done) | (simp; omega))))))); (focus decide))))
  · repeat (first | (with_reducible exact HB.out) | refine below_set ?_ (by omega))
end Go.Proofs.YtgljebaiakhbfaaGreat.Aw
namespace Go.Proofs.YtgljebaiakhbfaaGreat.Aw
open Go.RowKit Go.Maps Go.Sort Go.Shelf Go.Proofs Go.Proofs.YtgljebaiakhbfaaGreatW.PrintWords Go.Proofs.YtgljebaiakhbfaaGreatW.PrintLast Go.Proofs.YtgljebaiakhbfaaGreatW.PrintMore
set_option linter.unusedVariables false
set_option maxRecDepth 100000
set_option maxHeartbeats 2000000
/-- A disk's block. -/
abbrev DiskAt (w : World) (d : Nat) (room kept now waits out armed left : Value) : Prop :=
  w.heap[d]? = some (.cells #[room, kept, now, waits, out, armed, left] 108 (0, 0))
theorem disk_names (d M : Nat) (room kept waits out armed left : Value) (w : World) (hD : DiskAt w d room kept (.map (some M)) waits out armed left) (hM : w.heap[M]? = some (.map #[] 0)) :
    Calls Tryz.prog 117 #[.pointer (some ⟨d, 0, none⟩)] w fun e w' => e = .returned (.slice none 0 0) ∧ Below w.heap.size w w' := by
  have hc := fun i => blk_cell hD i
  have hd := fun i => blk_frozen hD i
  have HM := Aside0.mk hM
  clear hM
  go_enter Tryz.func117, Tryz.ntmps117
  go_wp2_with (first
    | (go_at_call 151; refine (keys_calls (some M) _).mono ?_; rintro e w1 ⟨rfl, rfl⟩)
    | (go_at_call 150; refine (sorted0 w.heap.size M _ (by simp) (by rw [blk_cell (blk_new w _) 0]; rfl) (blk_alloc HM.out _)).mono ?_; rintro e w2 ⟨rfl, hb⟩; have HB := Aside0.mk (below_step (by (repeat (first | (with_reducible exact Below.refl _ _) | (with_reducible apply below_alloc) | (with_reducible apply below_drew1) | (with_reducible apply pw_below_drewN)))) hb : Below w.heap.size w w2); clear hb))
  go_ret
  exact ⟨rfl, HB.out⟩
theorem names_calls (d M : Nat) (least : Int) (room kept waits out armed left : Value) (w : World) (hD : DiskAt w d room kept (.map (some M)) waits out armed left) (hM : w.heap[M]? = some (.map #[] 0)) :
    Calls Tryz.prog 94 #[.pointer (some ⟨d, 0, none⟩), .int .i64 least] w fun e w' => e = .returned (.slice none 0 0) ∧ Below w.heap.size w w' := by
  have HD := Aside0.mk hD
  have HM := Aside0.mk hM
  clear hM hD
  go_enter Tryz.func94, Tryz.ntmps94
  go_wp2_with (first
    | (go_at_call 117; refine (disk_names d M room kept waits out armed left _ (by (repeat (first | (with_reducible exact HD.out) | (with_reducible apply blk_alloc) | (with_reducible apply blk_drew) | (with_reducible apply blk_drewN) | (with_reducible apply blk_set) | ((with_reducible apply blk_far2); (focus (first | omega | (simp; done) | (simp; omega))))))) (by (repeat (first | (with_reducible exact HM.out) | (with_reducible apply blk_alloc) | (with_reducible apply blk_drew) | (with_reducible apply blk_drewN) | (with_reducible apply blk_set) | ((with_reducible apply blk_far2); (focus (first | omega | (simp; done) | (simp; omega)))))))).mono ?_; rintro e w1 ⟨rfl, hb⟩; have HB := Aside0.mk (below_step (by (repeat (first | (with_reducible exact Below.refl _ _) | (with_reducible apply below_alloc) | (with_reducible apply below_drew1) | (with_reducible apply pw_below_drewN)))) hb : Below w.heap.size w w1); clear hb)
    | (go_at_call 136; refine (delete0 _ _).mono ?_; rintro e w2 ⟨rfl, rfl⟩))
  go_ret
  exact ⟨rfl, HB.out⟩
theorem fresh_calls (s d M : Nat) (least : Int) (kind bases pieces log first synced n0 n1 n2 n3 n4 n5 cur named room kept waits out armed left : Value) (w : World)
    (hS : StoreAt w s (.pointer (some ⟨d, 0, none⟩)) kind bases pieces log first synced n0 n1 n2 n3 n4 n5 cur named)
    (hD : DiskAt w d room kept (.map (some M)) waits out armed left) (hM : w.heap[M]? = some (.map #[] 0)) :
    Calls Tryz.prog 75 #[.pointer (some ⟨s, 0, none⟩), .int .i64 least] w fun e w' => e = .returned (.int .i64 least) ∧ Below w.heap.size w w' := by
  have hc := fun i => blk_cell hS i
  have hd := fun i => blk_frozen hS i
  have HD := Aside0.mk hD
  have HM := Aside0.mk hM
  clear hM hD
  go_enter Tryz.func75, Tryz.ntmps75
  go_wp2_with (first
    | (go_at_call 94; refine (names_calls d M least room kept waits out armed left _ (by (repeat (first | (with_reducible exact HD.out) | (with_reducible apply blk_alloc) | (with_reducible apply blk_drew) | (with_reducible apply blk_drewN) | (with_reducible apply blk_set) | ((with_reducible apply blk_far2); (focus (first | omega | (simp; done) | (simp; omega))))))) (by (repeat (first | (with_reducible exact HM.out) | (with_reducible apply blk_alloc) | (with_reducible apply blk_drew) | (with_reducible apply blk_drewN) | (with_reducible apply blk_set) | ((with_reducible apply blk_far2); (focus (first | omega | (simp; done) | (simp; omega)))))))).mono ?_; rintro e w1 ⟨rfl, hb⟩; have HB := Aside0.mk (below_step (by (repeat (first | (with_reducible exact Below.refl _ _) | (with_reducible apply below_alloc) | (with_reducible apply below_drew1) | (with_reducible apply pw_below_drewN)))) hb : Below w.heap.size w w1); clear hb)
    | (go_at_call 114; refine (QTopUpgrades.store_last_int.calls none 0 [] 0 false _ (Kd.C_nil _ _) (Nat.le_refl _) rfl).mono ?_; rintro e w2 ⟨rfl, hb⟩; have HB2 := Aside0.mk (below_step HB.out hb.below : Below w.heap.size w w2); clear hb))
  go_ret
  exact ⟨rfl, HB2.out⟩
end Go.Proofs.YtgljebaiakhbfaaGreat.Aw
namespace Go.Proofs.YtgljebaiakhbfaaGreat.Aw
open Go.RowKit Go.Maps Go.Sort Go.Shelf Go.Proofs Go.Proofs.YtgljebaiakhbfaaGreatW.PrintWords Go.Proofs.YtgljebaiakhbfaaGreatW.PrintLast Go.Proofs.YtgljebaiakhbfaaGreatW.PrintMore
open Go.ChangeMaps (setBlock heap_setBlock_same heap_setBlock_other)
set_option linter.unusedVariables false
set_option maxRecDepth 100000
set_option maxHeartbeats 2000000
theorem did_calls (d : Nat) (room kept now waits out left : Value) (w : World) (hD : DiskAt w d room kept now waits out (.bool false) left) :
    Calls Tryz.prog 101 #[.pointer (some ⟨d, 0, none⟩)] w fun e w' => e = .returned (.int .i64 0) ∧ Below w.heap.size w w' := by
  have hc := fun i => blk_cell hD i
  have hd := fun i => blk_frozen hD i
  go_enter Tryz.func101, Tryz.ntmps101
  go_wp2
  go_ret
  exact ⟨rfl, Below.refl _ _⟩
/-- A map of one entry. -/
abbrev oneMap (v : Value) : Obj := .map #[{ key := .int .i64 2, val := v, born := 0 }] 1
theorem key2 : keyOf Tryz.prog 3 (.int .i64 2) = some (.int .i64 2) := Maps.keyOf_int_mk Tryz.underlying3 (by decide)
theorem look_empty {w : World} {M : Nat} (hM : w.heap[M]? = some (.map #[] 0)) : (Instr.lookup 105 (.map (some M)) (.int .i64 2) false).run Tryz.prog w = .ok (.pointer none) w := by
  have K := int_keyed Tryz.underlying3
  have hz : (zeroValue 153).run Tryz.prog w = .ok (.pointer none) w := by go_simp
  rcases K.find w key2 [] (by simp) with ⟨f1, _⟩ | ⟨j, e0, _, f2, _⟩
  · simp [Instr.lookup, run_underlying Tryz.underlying105, MapKept.run_getObj_map hM, K.check w _ key2, f1, Result.andThen, hz]
  · simp at f2
theorem put_empty {w : World} {M : Nat} (hM : w.heap[M]? = some (.map #[] 0)) (v : Value) : (Instr.mapUpdate 105 (.map (some M)) (.int .i64 2) v).run Tryz.prog w = .ok () (setBlock w M (oneMap v)) := by
  have K := int_keyed Tryz.underlying3
  rcases K.find w key2 [] (by simp) with ⟨f1, _⟩ | ⟨j, e0, _, f2, _⟩
  · simp [Instr.mapUpdate, run_underlying Tryz.underlying105, MapKept.run_getObj_map hM, K.check w _ key2, f1, MapKept.run_setObj_map _ hM, Result.andThen, setBlock]
  · simp at f2
theorem look_one {w : World} {M : Nat} {v : Value} (hM : w.heap[M]? = some (oneMap v)) : (Instr.lookup 105 (.map (some M)) (.int .i64 2) false).run Tryz.prog w = .ok v w := by
  have K := int_keyed Tryz.underlying3
  rcases K.find w key2 [{ key := .int .i64 2, val := v, born := 0 }] (by simp [key2]) with ⟨_, f2⟩ | ⟨j, e0, f1, f2, _⟩
  · exact absurd rfl (f2 _ (by simp; rfl))
  · have : e0 = { key := .int .i64 2, val := v, born := 0 } := by
      have := List.mem_of_getElem? f2
      simpa using this
    subst this
    simp [Instr.lookup, run_underlying Tryz.underlying105, MapKept.run_getObj_map hM, K.check w _ key2, f1, Result.andThen]
theorem put_calls (M F N f : Nat) (w : World) (hM : w.heap[M]? = some (.map #[] 0)) (hF : w.heap[F]? = some (.cells #[.pointer (some ⟨f, 0, none⟩)] 153 (0, 0))) (hN : w.heap[N]? = some (.cells #[.int .i64 2] 3 (0, 0))) :
    Calls Tryz.prog 112 #[.map (some M), .pointer (some ⟨F, 0, none⟩), .pointer (some ⟨N, 0, none⟩)] w fun e w' => e = .returned (.tuple #[]) ∧ w'.heap[M]? = some (oneMap (.pointer (some ⟨f, 0, none⟩))) ∧ w.grownBy w' (some M) := by
  have hc := fun i => blk_cell hF i
  have hd := fun i => blk_frozen hF i
  have hc1 := fun i => blk_cell hN i
  have hd1 := fun i => blk_frozen hN i
  have hp := put_empty hM (.pointer (some ⟨f, 0, none⟩))
  go_enter Tryz.func112, Tryz.ntmps112
  go_wp2
  go_end0
  exact ⟨rfl, heap_setBlock_same hM _, ⟨rfl, rfl, rfl, by simp [setBlock], fun i _ hi => heap_setBlock_other hM _ (fun e => hi (by rw [e]))⟩⟩
theorem used_calls (d M : Nat) (room kept waits out armed left : Value) (w : World) (hD : DiskAt w d room kept (.map (some M)) waits out armed left) (hM : w.heap[M]? = some (.map #[] 0)) :
    Calls Tryz.prog 111 #[.pointer (some ⟨d, 0, none⟩)] w fun e w' => e = .returned (.int .i64 0) ∧ Below w.heap.size w w' := by
  have hc := fun i => blk_cell hD i
  have hd := fun i => blk_frozen hD i
  have hown : w.ownsMap Tryz.prog 3 (fun _ => none) M 0 (.map [] : DataW Unit) := empty_map hM
  go_enter Tryz.func111, Tryz.ntmps111
  go_wp2_with (at_range; refine wpList_range_own _ rfl _ 105 rfl 3 153 (int_keyed Tryz.underlying3) Tryz.underlying105 _ M 0 _ rfl hown ?_; intro w0 hrg0 hg0 hs0)
  refine wp_loop_rounds 1 ?_
  rw [rounds_succ]
  go_wp2_with (at_next; refine wpList_next_ranges _ rfl _ rfl 3 (int_keyed Tryz.underlying3) (fun _ => none) encZ id (fun key kl hk => by obtain ⟨x, hx, _⟩ := Maps.keyOf_i64 Tryz.underlying3 hk; exact ⟨x, hx⟩) (fun v _ _ => ⟨v, rfl⟩) M w.heap.size 0 _ _ _ rfl hrg0 ?_ ?_)
  · intro _ _
    have HB := Aside0.mk (Below.refl w.heap.size w |>.grown hg0 (Nat.le_refl _) (fun k e => by cases e))
    clear hrg0 hg0 hs0 hown hM hD hc hd
    go_wp2
    go_ret
    exact ⟨rfl, HB.out⟩
theorem infoF : (Tryz.prog.info? 166).map (fun i => (i.zero, i.size, i.bytes)) = some (some Value.nilFunc, 1, 8) := by kernel_rfl
/-- change(put): the file's name is there. -/
theorem change_calls (d M F N f : Nat) (room kept out armed left : Value) (w : World) (hD : DiskAt w d room kept (.map (some M)) (.slice none 0 0) out armed left) (hM : w.heap[M]? = some (.map #[] 0))
    (hF : w.heap[F]? = some (.cells #[.pointer (some ⟨f, 0, none⟩)] 153 (0, 0))) (hN : w.heap[N]? = some (.cells #[.int .i64 2] 3 (0, 0))) :
    Calls Tryz.prog 108 #[.pointer (some ⟨d, 0, none⟩), .func (.func 112) #[] #[.pointer (some ⟨F, 0, none⟩), .pointer (some ⟨N, 0, none⟩)]] w fun e w' =>
      e = .returned (.tuple #[]) ∧ (∃ A n c, DiskAt w' d room kept (.map (some M)) (.slice A n c) out armed left) ∧ w'.heap[M]? = some (oneMap (.pointer (some ⟨f, 0, none⟩))) ∧ Below 0 w w' ∧ Kept w w' (fun k => k = d ∨ k = M) := by
  have hc := fun i => blk_cell hD i
  have hd := fun i => blk_frozen hD i
  go_enter Tryz.func108, Tryz.ntmps108
  have hdm : d ≠ M := fun h => by
    rw [h] at hD
    have := hD.symm.trans hM
    simp at this
  go_wp2_with (first
    | (go_at_call 112; refine (put_calls M F N f _ hM hF hN).mono ?_; rintro e w1 ⟨rfl, hM1, hg1⟩; have hD1 := blk_grown hD hg1 (by simp [hdm]); have hc1 := (fun i => blk_cell hD1 i); have hd1 := (fun i => blk_frozen hD1 i); have HM1 := Aside0.mk hM1; have HG1 := Aside0.mk hg1; clear hM1 hg1)
    | ((with_reducible refine gate_builtin (b := .append) (xs := #[.tmp 14, .tmp 16]) rfl ?_); at_builtin; refine nil_append (sz := 1) (e := 166) rfl (.tmp 14) (.tmp 16) 106 Value.nilFunc 8 rfl Tryz.underlying106 infoF rfl (by decide) (by decide) [.func (.func 112) #[] #[.pointer (some ⟨F, 0, none⟩), .pointer (some ⟨N, 0, none⟩)]] rfl (by intro u hu; simp only [List.mem_singleton] at hu; rw [hu]; rfl) rfl rfl (by decide) ?_; intro A2 c2 w2 ho hb; have hD2 := blk_below hD1 hb; have hc2 := (fun i => blk_cell hD2 i); have hd2 := (fun i => blk_frozen hD2 i); have HB2 := Aside0.mk hb; clear ho hb))
  go_end0
  refine ⟨rfl, ⟨A2, 1, c2, by (apply blk_is; (focus (repeat (first | (with_reducible exact hD2) | (with_reducible apply blk_alloc) | (with_reducible apply blk_drew) | (with_reducible apply blk_drewN) | (with_reducible apply blk_set) | ((with_reducible apply blk_far2); (focus (first | omega | (simp; done) | (simp; omega))))))); (focus rfl))⟩, (Below.heap_setCell w2 _ _ M (Ne.symm hdm)).trans (blk_below HM1.out HB2.out), ?_, ?_⟩
  · exact (((Below.refl 0 w).grown HG1.out (Nat.zero_le _) (fun k e => Nat.zero_le _)).trans (below_zero HB2.out)).setCell (Nat.zero_le _) _
  · exact ((Kept.of_grown HG1.out (Kept.refl w _) (fun k e => .inl (.inr (by simpa using e.symm)))).below HB2.out).setCell (.inl (.inl rfl)) _
end Go.Proofs.YtgljebaiakhbfaaGreat.Aw
namespace Go.Proofs.YtgljebaiakhbfaaGreat.Aw
open Go.RowKit Go.Maps Go.Sort Go.Shelf Go.Proofs Go.Proofs.YtgljebaiakhbfaaGreatW.PrintWords Go.Proofs.YtgljebaiakhbfaaGreatW.PrintLast Go.Proofs.YtgljebaiakhbfaaGreatW.PrintMore
set_option linter.unusedVariables false
set_option maxRecDepth 100000
set_option maxHeartbeats 4000000
theorem infoB : (Tryz.prog.info? 5).map (fun i => (i.zero, i.size, i.bytes)) = some (some (.int .u8 0), 1, 1) := by kernel_rfl
theorem Row.kept {sz e : Nat} {w w' : World} {v : Value} {rows : List (List Value)} {S : Nat → Prop} (h : Row sz e w v rows) (hk : Kept w w' S) (hS : ∀ k cells, w.heap[k]? = some (.cells cells e (0, 0)) → ¬ S k) : Row sz e w' v rows :=
  Kd.R_mono (Kd.R_kept (Kd.R_bound h) hk (fun k hk => by
    obtain ⟨_, _, _, q, hq, cells, hc⟩ := hk
    have : q = e := by simpa [Kd.raw] using hq
    subst this
    exact hS k cells hc)) (fun _ _ => trivial)
theorem row_of_R {α : Type} {d : Kd α} {e : Nat} {w : World} {base : Nat} {ok : Nat → Prop} {v : Value} {xs : List α} (h : d.R e w base ok v xs) : ∃ rows, rows.length = xs.length ∧ Row d.sz e w v rows := by
  obtain ⟨_, rows, hl, hR, _⟩ := Kd.R_N h
  exact ⟨rows, hl, Kd.R_lower (Kd.raw_any hR) (Nat.zero_le _)⟩
/-- A disk's file, put. -/
theorem disk_append (d M : Nat) (A : Option Addr) (n c : Nat) (rows : List (List Value)) (kept left : Value) (w : World)
    (hD : DiskAt w d (.int .i64 10000) kept (.map (some M)) (.slice none 0 0) (.bool false) (.bool false) left) (hM : w.heap[M]? = some (.map #[] 0)) (hC : Row 1 5 w (.slice A n c) rows) (hn : n ≤ 9000) :
    Calls Tryz.prog 71 #[.pointer (some ⟨d, 0, none⟩), .int .i64 2, .slice A n c] w fun e w' => e = .returned (.int .i64 0) ∧ Below 0 w w' ∧ Kept w w' (fun k => k = d ∨ k = M) := by
  have HD := Aside0.mk hD
  have HM := Aside0.mk hM
  have HC := Aside0.mk hC
  have hc := fun i => blk_cell hD i
  have hd := fun i => blk_frozen hD i
  have hlt := blk_lt hD
  have hne := Nat.ne_of_lt hlt
  clear hD hM hC
  go_enter Tryz.func71, Tryz.ntmps71
  go_upto_region 5 with (go_at_call 110; refine (QTopUpgrades.files_may.calls 2 true _ rfl).mono ?_; rintro e w1 ⟨rfl, hb⟩; obtain ⟨⟨nq, rfl⟩⟩ := hb)
  obtain ⟨wb, hwb⟩ : ∃ wb, ((w.alloc (.cells #[.int .i64 2] 3)).drewN nq) = wb := ⟨_, rfl⟩
  have hN : wb.heap[w.heap.size]? = some (.cells #[.int .i64 2] 3 (0, 0)) := by rw [← hwb]; exact blk_new w _
  have hBb : Below w.heap.size w wb := by rw [← hwb]; (repeat (first | (with_reducible exact Below.refl _ _) | (with_reducible apply below_alloc) | (with_reducible apply below_drew1) | (with_reducible apply pw_below_drewN)))
  rw [hwb]
  clear hwb
  have hDb := blk_below HD.out hBb
  have hMb := blk_below HM.out hBb
  have HCb := Aside0.mk (HC.out.below hBb)
  have HBb := Aside0.mk hBb
  have hcb := fun i => blk_cell hDb i
  have hdb := fun i => blk_frozen hDb i
  have hcn := fun i => blk_cell hN i
  have hdn := fun i => blk_frozen hN i
  have hlb := blk_lt hDb
  have hMlt := blk_lt HM.out
  have hDM : d ≠ M := fun h => by
    have h1 := HD.out
    rw [h] at h1
    have := h1.symm.trans HM.out
    simp at this
  have HD' := Aside0.mk hDb
  have HM' := Aside0.mk hMb
  clear HC HM HD hc hd hBb hMb
  go_cut [18] (fun v18 wc => v18 = .bool false ∧ Below wb.heap.size wb wc)
  case first =>
    have hu := fun W (h : Below wb.heap.size wb W) => used_calls d M _ _ _ _ _ _ W (blk_below HD'.out h) (blk_below HM'.out h)
    have hw0 : IntKind.i64.wrap (n : Int) = n := by rw [i64_w]; unfold wrap64; omega
    have hw1 : decide ((10000 : Int) < (n : Int)) = false := decide_eq_false (by omega)
    have hw2 : decide ((n : Int) > (10000 : Int)) = false := decide_eq_false (by omega)
    have hw3 : ¬ ((10000 : Int) < (n : Int)) := by omega
    go_region_with (go_at_call 111; refine (hu _ (by (repeat (first | exact Below.refl _ _ | apply below_drew1 | apply pw_below_drewN)))).mono ?_; rintro e w1 ⟨rfl, hb⟩; replace hb := below_step (w := wb) (by (repeat (first | exact Below.refl _ _ | apply below_drew1 | apply pw_below_drewN))) hb; have hD1 := blk_below hDb hb; have hc1 := (fun i => blk_cell hD1 i); have hd1 := (fun i => blk_frozen hD1 i))
    all_goals (go_wp2_with fail)
    all_goals go_meet
    all_goals (case rel => exact ⟨rfl, by first | exact hb | assumption⟩)
  case rest =>
    obtain ⟨rfl, hbc⟩ := hcut
    have hDc := blk_below HD'.out hbc
    have hMc := blk_below HM'.out hbc
    have hNc := blk_below hN hbc
    have HCc := Aside0.mk (HCb.out.below hbc)
    have HBc := Aside0.mk (below_step HBb.out hbc)
    have HMc := Aside0.mk hMc
    clear hDb hN hcb hdb hcn hdn HD' HM' HCb HBb hbc hlb
    have hcb := fun i => blk_cell hDc i
    have hdb := fun i => blk_frozen hDc i
    have hcn := fun i => blk_cell hNc i
    have hdn := fun i => blk_frozen hNc i
    have hlk := fun n => look_empty (w := wc.drewN n) (blk_drewN hMc n)
    have hlk0 := look_empty (w := wc) hMc
    have hlk1 := look_empty (w := wc.drew) (blk_drew hMc)
    go_wp2
    go_quiet (fail)
    go_upto_region 9 with fail
    obtain ⟨wd, hwd⟩ : ∃ wd, (((wc.drewN nq).alloc (.cells #[.slice none 0 0, .int .i64 0] 157)).alloc (.cells #[.pointer (some ⟨wc.heap.size, 0, none⟩)] 153)) = wd := ⟨_, rfl⟩
    have hDd : DiskAt wd d (.int .i64 10000) kept (.map (some M)) (.slice none 0 0) (.bool false) (.bool false) left := by rw [← hwd]; (repeat (first | (with_reducible exact hDc) | (with_reducible apply blk_alloc) | (with_reducible apply blk_drew) | (with_reducible apply blk_drewN) | (with_reducible apply blk_set) | ((with_reducible apply blk_far2); (focus (first | omega | (simp; done) | (simp; omega))))))
    have hMd : wd.heap[M]? = some (.map #[] 0) := by rw [← hwd]; (repeat (first | (with_reducible exact hMc) | (with_reducible apply blk_alloc) | (with_reducible apply blk_drew) | (with_reducible apply blk_drewN) | (with_reducible apply blk_set) | ((with_reducible apply blk_far2); (focus (first | omega | (simp; done) | (simp; omega))))))
    have hNd : wd.heap[w.heap.size]? = some (.cells #[.int .i64 2] 3 (0, 0)) := by rw [← hwd]; (repeat (first | (with_reducible exact hNc) | (with_reducible apply blk_alloc) | (with_reducible apply blk_drew) | (with_reducible apply blk_drewN) | (with_reducible apply blk_set) | ((with_reducible apply blk_far2); (focus (first | omega | (simp; done) | (simp; omega))))))
    have hfd : wd.heap[wc.heap.size]? = some (.cells #[.slice none 0 0, .int .i64 0] 157 (0, 0)) := by rw [← hwd]; exact blk_alloc (blk_new (wc.drewN nq) _) _
    have hFd : wd.heap[wc.heap.size + 1]? = some (.cells #[.pointer (some ⟨wc.heap.size, 0, none⟩)] 153 (0, 0)) := by rw [← hwd]; have := blk_new ((wc.drewN nq).alloc (.cells #[.slice none 0 0, .int .i64 0] 157)) (.cells #[.pointer (some ⟨wc.heap.size, 0, none⟩)] 153); rwa [World.size_alloc] at this
    have HBd0 : Below wc.heap.size wc wd := by rw [← hwd]; (repeat (first | (with_reducible exact Below.refl _ _) | (with_reducible apply below_alloc) | (with_reducible apply below_drew1) | (with_reducible apply pw_below_drewN)))
    have HCd := Aside0.mk (HCc.out.below HBd0)
    have HBd := Aside0.mk (below_step HBc.out HBd0)
    have hlc := HBc.out.size
    have hlN := blk_lt hNc
    rw [hwd]
    clear hwd hDc hMc hNc HCc HBc HMc hcb hdb hcn hdn hlk hlk0 hlk1 HBd0
    have hcb := fun i => blk_cell hDd i
    have hdb := fun i => blk_frozen hDd i
    have hcn := fun i => blk_cell hNd i
    have hdn := fun i => blk_frozen hNd i
    go_upto_region 10 with (go_at_call 108; refine (change_calls d M (wc.heap.size + 1) w.heap.size wc.heap.size _ _ _ _ _ _ hDd hMd hFd hNd).mono ?_; rintro e we ⟨rfl, ⟨A2, n2, c2, hDe⟩, hMe, hze, hke⟩; have hce := (fun i => blk_cell hDe i); have hde := (fun i => blk_frozen hDe i); have hNe := blk_kept hNd hke (by omega); have hfe := blk_kept hfd hke (by omega); have hcne := (fun i => blk_cell hNe i); have hdne := (fun i => blk_frozen hNe i); have hcfe := (fun i => blk_cell hfe i); have hdfe := (fun i => blk_frozen hfe i); have HKE := Aside0.mk hke; have HZE := Aside0.mk hze; clear hke hze)
    have HCe := Aside0.mk (HCd.out.kept HKE.out (fun k cells hk h => by
      rcases h with rfl | rfl
      · have := hk.symm.trans hDd; simp at this
      · have := hk.symm.trans hMd; simp at this))
    have HBe := Aside0.mk (HZE.out)
    have HKe := Aside0.mk (((Kept.of_below HBd.out (fun k => k = d ∨ k = M)).then_ HKE.out (fun k hk => .inl hk)))
    have HZe := Aside0.mk ((below_zero HBd.out).trans HZE.out)
    have hlk := fun n => look_one (w := we.drewN n) (blk_drewN hMe n)
    have hlk0 := look_one (w := we) hMe
    have hlk1 := look_one (w := we.drew) (blk_drew hMe)
    have hle := HKE.out.1
    have hlD := blk_lt hFd
    clear hDd hMd hNd hfd hFd HCd HBd HKE HZE HBe hcb hdb hcn hdn
    go_wp2
    go_quiet (fail)
    obtain ⟨rfl, hRR⟩ : n = rows.length ∧ True := ⟨(Kd.R_reads' HCe.out).1, trivial⟩
    go_wp2_with (first
      | ((with_reducible refine gate_builtin (b := .append) (xs := #[.tmp 51, .tmp 52]) rfl ?_); at_builtin; refine nil_append_rows (sz := 1) (e := 5) rfl (.tmp 51) (.tmp 52) 26 (.int .u8 0) 1 rfl Tryz.underlying26 infoB rfl (by decide) (by decide) A rows.length c rows (Kd.C_below (Kd.R_reads' HCe.out).2.2 (by (repeat (first | exact Below.refl _ _ | apply below_drew1 | apply pw_below_drewN)))) rfl rfl (by omega) ?_; intro A3 c3 wf ho hb; replace hb := below_step (w := we) (by (repeat (first | exact Below.refl _ _ | apply below_drew1 | apply pw_below_drewN))) hb; have hDf := blk_below hDe hb; have hff := blk_below hfe hb; have hcf := (fun i => blk_cell hff i); have hdf := (fun i => blk_frozen hff i); have HBf := Aside0.mk hb; have hDg := (fun i u => blk_far (p := ⟨wc.heap.size, i, none⟩) hDf (show d ≠ wc.heap.size by omega) u); clear ho hb)
      | (go_at_call 101; refine (did_calls d _ _ _ _ _ _ _ (hDg _ _)).mono ?_; rintro e wg ⟨rfl, hb⟩; have HBg := Aside0.mk hb; clear hb))
    go_ret
    refine ⟨rfl, ?_, ?_⟩
    · exact ((HZe.out.trans (below_zero HBf.out)).setCell (Nat.zero_le _) _).trans (below_zero HBg.out)
    · exact ((HKe.out.below HBf.out).setCell (.inr (by show w.heap.size ≤ wc.heap.size; omega)) _).below HBg.out
end Go.Proofs.YtgljebaiakhbfaaGreat.Aw
