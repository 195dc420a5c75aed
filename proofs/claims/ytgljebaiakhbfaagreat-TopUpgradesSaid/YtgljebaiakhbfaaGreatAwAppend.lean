/- What this text proves: what the store's Append does with the first record; condition: the blocks. -/
import Derived.Test.YtgljebaiakhbfaaGreatAwNew
import Derived.Test.YtgljebaiakhbfaaGreatAwPut
import Derived.StillTailTactics
namespace Go.Proofs.YtgljebaiakhbfaaGreat.Aw
open Go.RowKit Go.Maps Go.Sort Go.Shelf Go.Proofs Go.Proofs.YtgljebaiakhbfaaGreatW.PrintWords Go.Proofs.YtgljebaiakhbfaaGreatW.PrintLast Go.Proofs.YtgljebaiakhbfaaGreatW.PrintMore
set_option linter.unusedVariables false
set_option maxRecDepth 100000
set_option maxHeartbeats 4000000
attribute [local go_sem ↓] Go.wp_at_zero Go.wp_at_succ
theorem row_block {sz e : Nat} {w : World} {v : Value} {rows : List (List Value)} (h : Row sz e w v rows) {k : Nat} (hk : v.ownBlock = some k) : ∃ cells, w.heap[k]? = some (.cells cells e (0, 0)) := by
  obtain ⟨_, inner, ⟨_, h2⟩, _⟩ := h
  rcases h2 with ⟨rfl, _⟩ | ⟨g, cap, cur, rfl, _, hg, _⟩
  · simp [Value.ownBlock] at hk
  · simp only [Value.ownBlock, Option.some.injEq] at hk
    exact ⟨cur, hk ▸ hg⟩
/-- A row of one: its block. -/
theorem row_one {sz e : Nat} {w : World} {A : Option Addr} {c : Nat} {cs : List Value} (h : Row sz e w (.slice A 1 c) [cs]) : ∃ (g : Nat) (cur : Array Value), A = some ⟨g, 0, none⟩ ∧ w.heap[g]? = some (.cells cur e (0, 0)) ∧ ∀ (i : Nat) (u : Value), cs[i]? = some u → cur[i]? = some u := by
  obtain ⟨_, inner, ⟨hl, h2⟩, hr⟩ := h
  rcases h2 with ⟨h3, _⟩ | ⟨g, cap, cur, h3, _, hg, _, _, _, htk⟩
  · simp at h3
  · injection h3 with h4 h5 h6
    refine ⟨g, cur, h4, hg, fun i u hi => ?_⟩
    have := (hr.2 0 cs rfl).1
    rw [Nat.zero_mul, List.drop_zero] at this
    rw [← this] at hi
    have h7 : inner[i]? = some u := by
      rw [List.getElem?_take] at hi
      split at hi
      · exact hi
      · cases hi
    rw [← htk, List.getElem?_take] at h7
    split at h7
    · simpa using h7
    · cases h7
theorem row_not {sz e : Nat} {w : World} {v : Value} {rows : List (List Value)} (h : Row sz e w v rows) {k t : Nat} {cells : Array Value} (hb : w.heap[k]? = some (.cells cells t (0, 0))) (ht : t ≠ e) : ¬ (some k = v.ownBlock) := fun hk => by
  obtain ⟨c, hc⟩ := row_block h hk.symm
  have := hb.symm.trans hc
  simp only [Option.some.injEq, Obj.cells.injEq] at this
  exact ht this.2.1
theorem row_notM {sz e : Nat} {w : World} {v : Value} {rows : List (List Value)} (h : Row sz e w v rows) {k : Nat} {es : Array MapEntry} {n : Nat} (hb : w.heap[k]? = some (.map es n)) : ¬ (some k = v.ownBlock) := fun hk => by
  obtain ⟨c, hc⟩ := row_block h hk.symm
  have := hb.symm.trans hc
  simp at this
/-- The record that is appended. -/
abbrev rec1 : QTopUpgrades.S62 := ⟨0, 0, 1, ⟨1, 5, 0⟩, 0⟩
abbrev RecAt (w : World) (b : Nat) : Prop := w.heap[b]? = some (.cells #[.int .i64 0, .int .i64 0, .int .i64 1, .int .i64 1, .int .i64 5, .int .i64 0, .int .i64 0] 62 (0, 0))
theorem rec_C {w : World} {b : Nat} (h : RecAt w b) : Kd.C QTopUpgrades.k62 w (some ⟨b, 0, none⟩) [rec1].length [rec1] := by
  refine ⟨rfl, by decide, fun _ => ⟨⟨b, 0, none⟩, rfl, fun j p hj => ⟨[.int .i64 0, .int .i64 0, .int .i64 1, .int .i64 1, .int .i64 5, .int .i64 0, .int .i64 0], rfl, ?_, fun i u hu => ?_⟩⟩⟩
  · rcases j with _ | j
    · simp only [List.getElem?_cons_zero, Option.some.injEq] at hj
      subst hj
      exact ⟨_, _, rfl, rfl, ⟨_, _, rfl, rfl, ⟨_, _, rfl, rfl, ⟨_, _, rfl, ⟨_, _, rfl, rfl, ⟨_, _, rfl, rfl, rfl⟩⟩, rfl⟩⟩⟩⟩
    · simp at hj
  · rcases j with _ | j
    · have := blk_cell h i
      rw [List.getElem?_toArray, hu] at this
      rcases i with _ | i
      · simpa [Addr.add] using this
      · simpa [Addr.add] using this
    · simp at hj
theorem enc1 : QTopUpgrades.block_Encode.f 100 [rec1] = some ([0, 1, 0, 2, 1, 10, 0, 0], 0) := by kernel_rfl
theorem enc2 : QTopUpgrades.frame_Encode.f 100 [0, 1, 0, 2, 1, 10, 0, 0] = some ([8, 0, 1, 0, 2, 1, 10, 0, 0, 212, 175, 204, 177], 0) := by kernel_rfl
theorem head1 : QTopUpgrades.segment_Head.f 100 3 0 0 = some ([4, 108, 3, 0, 0, 143, 17, 252, 190], 0) := by kernel_rfl
theorem r_base {α : Type} {d : Kd α} {e : Nat} {w : World} {base : Nat} {ok : Nat → Prop} {v : Value} {xs : List α} (h : d.R e w base ok v xs) {k : Nat} (hk : v.ownBlock = some k) : base ≤ k := by
  obtain ⟨_, inner, ⟨_, h2⟩, _⟩ := h
  rcases h2 with ⟨rfl, _⟩ | ⟨g, cap, cur, rfl, hg, _⟩
  · simp [Value.ownBlock] at hk
  · simp only [Value.ownBlock, Option.some.injEq] at hk
    exact hk ▸ hg
section
variable {P : Program} {ops : Array Oper} {o : Oper} {a : Act} {Q : Exit → Act → World → Prop} {Kc : Act → World → Prop} {E : Prop}
/-- append(nil, x), as a step of a region that draws. -/
theorem nil_append_step {W : World} {sz e : Nat} (hgd : o.guard = none) (s x : Operand) (t : TypeId) (z : Value) (bytes : Nat)
    (ho : o.op = .call { callee := .builtin .append, args := #[s, x], argTypes := #[t, t] })
    (ht : P.underlying t = some (.slice e)) (hinfo : (P.info? e).map (fun i => (i.zero, i.size, i.bytes)) = some (some z, sz, bytes)) (hz : z.cells.size = sz) (hs0 : 0 < sz) (hb0 : 0 < bytes)
    (cs : List Value) (hcl : cs.length = sz) (hone : ∀ u ∈ cs, u.oneCell' = true) (hs : a.eval s = .slice none 0 0) (hx : a.eval x = .slice (some ⟨W.heap.size, 0, none⟩) 1 1) (hl : bytes ≤ 140737488355328)
    (h : ∀ A c w1, Row sz e w1 (.slice A 1 c) [cs] → Below W.heap.size W w1 → (∀ k, (Value.slice A 1 c).ownBlock = some k → W.heap.size ≤ k) → Kc (a.put o.dst (.slice A 1 c)) w1) :
    if Region.wanted o (yielded ops a.tmps) = true then Oper.wp P o a (W.alloc (.cells cs.toArray e)) Kc Q else E := by
  have hw : Region.wanted o (yielded ops a.tmps) = true := by simp [Region.wanted, hgd]
  rw [if_pos hw]
  have := Kd.R_append_step (Kd.raw sz) (ops := ops) (Q := Q) (Kc := Kc) (w0 := W) 0 hw s x t e z bytes ho ht hinfo hz hs0 hb0 (.slice none 0 0) [] cs cs (fun _ => True) (fun _ => False) hs hx ⟨rfl, hcl, hone⟩ (fun _ hk => hk.elim) (fun _ _ => trivial)
    (Kd.R_nil _ _ _ _ _) (below_zero (Below.refl 0 W)) (Nat.zero_le _) (by simpa using hl) (fun v1 w1 hr _ hg hat => by
      obtain ⟨A, c, rfl⟩ := Kd.R_slice hr
      refine h A c w1 hr (below_own (Below.refl _ _) hg (fun k e => by simp [Value.ownBlock] at e)) (fun k hk => ?_)
      rcases hat with h1 | ⟨b, h1, h2⟩
      · have h3 := hk.symm.trans h1
        simp [Value.ownBlock] at h3
      · have h3 := hk.symm.trans h1
        simp only [Option.some.injEq] at h3
        omega)
  rwa [if_pos hw] at this
end
theorem wrap64_00 : wrap64 (0 + ((0 : Nat) : Int)) = 0 := by rw [← i64_w]; decide
theorem fresh_next {w : World} {s d : Nat} {bases n0 n1 n2 n3 n4 n5 : Value} (h : Fresh w s d bases n0 n1 n2 n3 n4 n5) :
    Calls Tryz.prog 60 #[.pointer (some ⟨s, 0, none⟩)] w fun e w' => e = .returned (.int .i64 0) ∧ Below w.heap.size w w' :=
  (next_calls s 0 0 none 0 _ _ _ _ _ _ _ _ _ _ _ _ _ _ h).mono (fun e w' h => ⟨h.1.trans (by rw [wrap64_00]), h.2⟩)
theorem wrap_a : IntKind.i64.wrap ((1 : Int) - 1) = 0 := by decide
theorem wrap_b : IntKind.i64.wrap ((0 : Int) + 1) = 1 := by decide
theorem wrap_c : IntKind.i64.wrap (1 : Int) = 1 := by decide
theorem wrap_d : IntKind.i64.wrap (0 : Int) = 0 := by decide
attribute [local go_sem] wrap_a wrap_b wrap_c wrap_d
/-- A store whose segment grows. -/
abbrev Grown (w : World) (s d : Nat) (bases pieces log n0 n1 n2 n3 n4 n5 : Value) : Prop :=
  StoreAt w s (.pointer (some ⟨d, 0, none⟩)) (.int .i64 0) bases pieces log (.int .i64 0) (.int .i64 0) n0 n1 n2 n3 n4 n5 (.int .i64 2) (.bool false)
theorem grown_next {w : World} {s d : Nat} {bases pieces n0 n1 n2 n3 n4 n5 : Value} (h : Grown w s d bases pieces (.slice none 0 0) n0 n1 n2 n3 n4 n5) :
    Calls Tryz.prog 60 #[.pointer (some ⟨s, 0, none⟩)] w fun e w' => e = .returned (.int .i64 0) ∧ Below w.heap.size w w' :=
  (next_calls s 0 0 none 0 _ _ _ _ _ _ _ _ _ _ _ _ _ _ h).mono (fun e w' h => ⟨h.1.trans (by rw [wrap64_00]), h.2⟩)
theorem infoR : (Tryz.prog.info? 62).map (fun i => (i.zero, i.size, i.bytes)) = some (some (.agg #[.int .i64 0, .int .i64 0, .int .i64 0, .int .i64 0, .int .i64 0, .int .i64 0, .int .i64 0]), 7, 56) := by kernel_rfl
theorem infoPc : (Tryz.prog.info? 126).map (fun i => (i.zero, i.size, i.bytes)) = some (some (.agg #[.int .i64 0, .int .i64 0, .int .i64 0]), 3, 24) := by kernel_rfl
theorem grown_held {w : World} {s d : Nat} {bases pieces log n0 n1 n2 n3 n4 n5 : Value} (h : Grown w s d bases pieces log n0 n1 n2 n3 n4 n5) : w.cell? ⟨s, 3, none⟩ = some pieces := blk_cell h 3
theorem rec_held {w : World} {b : Nat} (h : RecAt w b) : w.cell? ⟨b, 0, none⟩ = some (.int .i64 0) := blk_cell h 0
theorem store_kind {w : World} {s d : Nat} {bases n0 n1 n2 n3 n4 n5 : Value} (h : Fresh w s d bases n0 n1 n2 n3 n4 n5) : w.cell? ⟨s, 1, none⟩ = some (.int .i64 0) := blk_cell h 1
theorem append_calls (s d M b : Nat) (bases kept left : Value) (A : Option Addr) (n c : Nat) (w : World)
    (hS : Fresh w s d bases (.int .i64 0) (.int .i64 0) (.slice A n c) (.bool false) (.int .i64 0) (.slice none 0 0)) (hL : Row 1 3 w (.slice A n c) [[.int .i64 0]])
    (hD : DiskAt w d (.int .i64 10000) kept (.map (some M)) (.slice none 0 0) (.bool false) (.bool false) left) (hM : w.heap[M]? = some (.map #[] 0)) (hR : RecAt w b) :
    Calls Tryz.prog 62 #[.pointer (some ⟨s, 0, none⟩), .slice (some ⟨b, 0, none⟩) 1 1] w fun e w' => e = .returned (.int .i64 0) ∧
      (∃ disk kind bases pieces log first synced cur named A' c' B' d', StoreAt w' s disk kind bases pieces log first synced (.int .i64 1) (.int .i64 0) (.slice A' 1 c') (.bool false) (.int .i64 0) (.slice B' 1 d') cur named ∧
        Row 1 3 w' (.slice A' 1 c') [[.int .i64 5]] ∧ Row 3 182 w' (.slice B' 1 d') [[.int .i64 0, .int .i64 1, .int .i64 0]]) ∧
      Below 0 w w' ∧ Kept w w' (fun k => k = s ∨ k = d ∨ k = M ∨ some k = (Value.slice A n c).ownBlock) := by
  have HA := Aside0.mk (And.intro hS (And.intro hL (And.intro hD (And.intro hM hR))))
  clear hS hL hD hM hR
  go_enter Tryz.func62, Tryz.ntmps62
  go_upto_region 4 with (go_at_call 88; refine (QTopUpgrades.block_Encode.calls 100 (some ⟨b, 0, none⟩) 1 [rec1] _ 0 _ (rec_C HA.out.2.2.2.2) (by decide) enc1).mono ?_; rintro e w1 ⟨v1, rfl, ho, hb⟩; obtain ⟨A1, c1, rfl⟩ := Kd.R_slice ho; have HO1 := Aside0.mk ho; have HB1 := Aside0.mk hb; clear ho hb)
  have hR1 : RecAt w1 b := blk_below HA.out.2.2.2.2 HB1.out
  have hS1 := blk_below HA.out.1 HB1.out
  have hltb := blk_lt hR1
  have hr0 := rec_held hR1
  go_region_held3 (fun w' => w'.cell? ⟨b, 0, none⟩ = some (.int .i64 0)) (first | (refine rec_held (b := b) ?_; first | ((repeat (first | (with_reducible exact hR2) | (with_reducible apply blk_alloc) | (with_reducible apply blk_drew) | (with_reducible apply blk_drewN) | (with_reducible apply blk_set) | ((with_reducible apply blk_far2); (focus (first | omega | (simp; done) | (simp; omega)))))); done) | ((repeat (first | (with_reducible exact hR1) | (with_reducible apply blk_alloc) | (with_reducible apply blk_drew) | (with_reducible apply blk_drewN) | (with_reducible apply blk_set) | ((with_reducible apply blk_far2); (focus (first | omega | (simp; done) | (simp; omega)))))); done)) | fail)
    (first
    | (go_at_call 60; refine (fresh_next (by (repeat (first | (with_reducible exact hS1) | (with_reducible apply blk_alloc) | (with_reducible apply blk_drew) | (with_reducible apply blk_drewN) | (with_reducible apply blk_set) | ((with_reducible apply blk_far2); (focus (first | omega | (simp; done) | (simp; omega)))))))).mono ?_; rintro e w2 ⟨rfl, hb⟩; obtain ⟨HB2⟩ : Aside0 (Below w1.heap.size w1 w2) := ⟨below_step (by (repeat (first | (with_reducible exact Below.refl _ _) | (with_reducible apply below_alloc) | (with_reducible apply below_drew1) | (with_reducible apply pw_below_drewN)))) hb⟩; have hR2 : RecAt w2 b := blk_below hR1 HB2; have HB2' := Aside0.mk HB2; clear hb HB2))
  have HBw2 := Aside0.mk (below_step HB1.out HB2'.out)
  have HO2 := Aside0.mk (Kd.R_below HO1.out HB2'.out)
  clear hr0 hR1 hS1 hltb hR2 HO1
  go_upto_region 7 with (go_at_call 87; refine (QTopUpgrades.frame_Encode.calls 100 (fun _ => True) A1 c1 [0, 1, 0, 2, 1, 10, 0, 0] _ 0 _ (Kd.R_V HO2.out) enc2).mono ?_; rintro e w3 ⟨v3, rfl, ho, hb⟩; obtain ⟨A3, c3, rfl⟩ := Kd.R_slice ho; have HO3 := Aside0.mk ho; have HB3 := Aside0.mk (below_step HBw2.out hb); clear ho hb)
  have hS3 := blk_below HA.out.1 HB3.out
  have hc3 := fun i => blk_cell hS3 i
  have hd3 := fun i => blk_frozen hS3 i
  go_upto_region 9 with fail
  have hk3 := store_kind hS3
  clear hc3 hd3
  go_region_held3 (fun w' => w'.cell? ⟨s, 1, none⟩ = some (.int .i64 0)) (first | (refine store_kind (s := s) (d := d) (bases := bases) (n0 := .int .i64 0) (n1 := .int .i64 0) (n2 := .slice A n c) (n3 := .bool false) (n4 := .int .i64 0) (n5 := .slice none 0 0) ?_; first | ((repeat (first | (with_reducible exact hS5) | (with_reducible apply blk_alloc) | (with_reducible apply blk_drew) | (with_reducible apply blk_drewN) | (with_reducible apply blk_set) | ((with_reducible apply blk_far2); (focus (first | omega | (simp; done) | (simp; omega)))))); done) | ((repeat (first | (with_reducible exact hS4) | (with_reducible apply blk_alloc) | (with_reducible apply blk_drew) | (with_reducible apply blk_drewN) | (with_reducible apply blk_set) | ((with_reducible apply blk_far2); (focus (first | omega | (simp; done) | (simp; omega)))))); done) | ((repeat (first | (with_reducible exact hS3) | (with_reducible apply blk_alloc) | (with_reducible apply blk_drew) | (with_reducible apply blk_drewN) | (with_reducible apply blk_set) | ((with_reducible apply blk_far2); (focus (first | omega | (simp; done) | (simp; omega)))))); done)) | fail)
    (first
    | (go_at_call 60; refine (fresh_next (by (repeat (first | (with_reducible exact hS3) | (with_reducible apply blk_alloc) | (with_reducible apply blk_drew) | (with_reducible apply blk_drewN) | (with_reducible apply blk_set) | ((with_reducible apply blk_far2); (focus (first | omega | (simp; done) | (simp; omega)))))))).mono ?_; rintro e w4 ⟨rfl, hb⟩; obtain ⟨HB4⟩ : Aside0 (Below w.heap.size w w4) := ⟨below_step HB3.out (below_step (by (repeat (first | (with_reducible exact Below.refl _ _) | (with_reducible apply below_alloc) | (with_reducible apply below_drew1) | (with_reducible apply pw_below_drewN)))) hb)⟩; have hS4 := blk_below HA.out.1 HB4; have HB4' := Aside0.mk HB4; have HB34 := Aside0.mk (below_step (by (repeat (first | (with_reducible exact Below.refl _ _) | (with_reducible apply below_alloc) | (with_reducible apply below_drew1) | (with_reducible apply pw_below_drewN)))) hb : Below w3.heap.size w3 w4); clear hb HB4)
    | (go_at_call 15; refine (QTopUpgrades.segment_Head.calls 100 3 0 0 _ 0 _ head1).mono ?_; rintro e w5 ⟨v5, rfl, ho, hb⟩; obtain ⟨A5, c5, rfl⟩ := Kd.R_slice ho; have HO5 := Aside0.mk ho; have HB45 := Aside0.mk hb; obtain ⟨HB5⟩ : Aside0 (Below w.heap.size w w5) := ⟨below_step HB4'.out hb⟩; have hS5 := blk_below HA.out.1 HB5; have HB5' := Aside0.mk HB5; clear hb ho HB5))
  have hb5 : ∀ k, (Value.slice A5 9 c5).ownBlock = some k → w.heap.size ≤ k := fun k hk => Nat.le_trans HB4'.out.size (r_base HO5.out hk)
  obtain ⟨rows5, hl5, hr5⟩ := row_of_R HO5.out
  obtain ⟨rows3, hl3, hr3⟩ := row_of_R (Kd.R_below HO3.out (below_step HB34.out HB45.out))
  have HR5 := Aside0.mk (And.intro hr5 (And.intro hr3 (And.intro hb5 (And.intro hl5 hl3))))
  clear hb5 hl5 hr5 hl3 hr3 HO5 HO3 HO2 hk3 hS3 hS4
  go_upto_region 11 with (first
    | (go_at_call 75; refine (fresh_calls s d M 2 _ _ _ _ _ _ _ _ _ _ _ _ _ _ _ _ _ _ _ _ _ hS5 (blk_below HA.out.2.2.1 HB5'.out) (blk_below HA.out.2.2.2.1 HB5'.out)).mono ?_; rintro e w6 ⟨rfl, hb⟩; have HB6 := Aside0.mk hb; clear hb)
    | ((with_reducible refine gate_builtin (b := .append) (xs := #[.tmp 51, .tmp 52]) rfl ?_); at_builtin; refine Kd.R_append_rows (Kd.raw 1) (w0 := w6) 0 rfl (.tmp 51) (.tmp 52) 26 5 (.int .u8 0) 1 rfl Tryz.underlying26 infoB rfl (by decide) (by decide) (.slice A5 9 c5) rows5 rows3 A3 13 c3 (fun _ => True) (fun _ => False) rfl rfl (HR5.out.1.below HB6.out) (by have := Kd.R_reads' (HR5.out.2.1.below HB6.out); rw [← this.1] at this; exact this.2.2) (fun _ _ h => h) (fun _ h => h.elim) (fun _ _ => trivial) (Below.refl 0 w6) (Nat.zero_le _) (by have h5 := HR5.out.2.2.2.1; have h3 := HR5.out.2.2.2.2; simp only [List.length_cons, List.length_nil] at h5 h3; omega) ?_; intro v7 w7 ho hb hg hat; obtain ⟨A7, c7, rfl⟩ := Kd.R_slice ho; have HO7 := Aside0.mk ho; have HB7 := Aside0.mk (below_own (below_step HB5'.out HB6.out) hg HR5.out.2.2.1); clear ho hb hg hat))
  obtain ⟨hS0, hL0, hD0, hM0, hR0⟩ := HA.out
  have hsd : s ≠ d := blk_ne hS0 hD0 (by decide)
  have hbd : b ≠ d := blk_ne hR0 hD0 (by decide)
  have hbs : b ≠ s := blk_ne hR0 hS0 (by decide)
  have hsM : s ≠ M := fun h => by
    rw [h] at hS0
    have := hS0.symm.trans hM0
    simp at this
  have hbM : b ≠ M := fun h => by
    rw [h] at hR0
    have := hR0.symm.trans hM0
    simp at this
  have hS7 := blk_below hS0 HB7.out
  have hL7 := hL0.below HB7.out
  have hD7 := blk_below hD0 HB7.out
  have hM7 := blk_below hM0 HB7.out
  have hR7 := blk_below hR0 HB7.out
  have hn7 : rows5.length + rows3.length ≤ 9000 := by
    have h5 := HR5.out.2.2.2.1
    have h3 := HR5.out.2.2.2.2
    simp only [List.length_cons, List.length_nil] at h5 h3
    omega
  have hlen : (rows5 ++ rows3).length = rows5.length + rows3.length := List.length_append
  have HD7 := Aside0.mk (And.intro hL7 (And.intro hD7 (And.intro hM7 (And.intro hR7 hn7))))
  have HO7' : Aside0 (Row 1 5 w7 (.slice A7 (rows5.length + rows3.length) c7) (rows5 ++ rows3)) := ⟨by have := HO7.out; rwa [hlen] at this⟩
  have hk7 : ∀ k cells, w7.heap[k]? = some (.cells cells 3 (0, 0)) → ¬ (k = d ∨ k = M) := by
    intro k cells hk h
    rcases h with rfl | rfl
    · have := hk.symm.trans hD7
      simp at this
    · have := hk.symm.trans hM7
      simp at this
  have HK7 := Aside0.mk hk7
  have hc7 := fun i => blk_cell hS7 i
  have hd7 := fun i => blk_frozen hS7 i
  clear hk7 hS0 hL0 hD0 hM0 hR0 hL7 hD7 hM7 hR7 hn7 hlen HO7 HR5
  go_upto_region 16 with (go_at_call 71; refine (disk_append d M A7 _ c7 _ kept left _ HD7.out.2.1 HD7.out.2.2.1 HO7'.out HD7.out.2.2.2.2).mono ?_; rintro e w8 ⟨rfl, hz, hk⟩; have hS8 := blk_kept hS7 hk (by rintro (h | h) <;> omega); have hR8 := blk_kept HD7.out.2.2.2.1 hk (by rintro (h | h) <;> omega); have HL8 := Aside0.mk (HD7.out.1.kept hk HK7.out); have HZ8 := Aside0.mk ((below_zero HB7.out).trans hz); have HK8 := Aside0.mk ((Kept.of_below HB7.out (fun k => k = s ∨ k = d ∨ k = M ∨ some k = (Value.slice A n c).ownBlock)).then_ hk (fun k h => .inl (.inr (h.elim .inl (fun h => .inr (.inl h)))))); have hc8 := (fun i => blk_cell hS8 i); have hd8 := (fun i => blk_frozen hS8 i); clear hz hk hc7 hd7)
  refine cont (fun w9 => Grown w9 s d bases (.slice none 0 0) (.slice none 0 0) (.int .i64 0) (.int .i64 0) (.slice A n c) (.bool false) (.int .i64 0) (.slice none 0 0) ∧ Row 1 3 w9 (.slice A n c) [[.int .i64 0]] ∧ RecAt w9 b ∧ Below 0 w w9 ∧ Kept w w9 (fun k => k = s ∨ k = d ∨ k = M ∨ some k = (Value.slice A n c).ownBlock))
    ⟨by (apply blk_is; (focus (repeat (first | (with_reducible exact hS8) | (with_reducible apply blk_alloc) | (with_reducible apply blk_drew) | (with_reducible apply blk_drewN) | (with_reducible apply blk_set) | ((with_reducible apply blk_far2); (focus (first | omega | (simp; done) | (simp; omega))))))); (focus rfl)), by (repeat (first | (with_reducible exact HL8.out) | (with_reducible apply Row.alloc) | (with_reducible apply Row.drew) | (with_reducible apply Row.drewN) | ((with_reducible apply Row.set2); (focus (repeat (first | (with_reducible exact hS8) | (with_reducible apply blk_alloc) | (with_reducible apply blk_drew) | (with_reducible apply blk_drewN) | (with_reducible apply blk_set) | ((with_reducible apply blk_far2); (focus (first | omega | (simp; done) | (simp; omega))))))); (focus decide)))), by (apply blk_is; (focus (repeat (first | (with_reducible exact hR8) | (with_reducible apply blk_alloc) | (with_reducible apply blk_drew) | (with_reducible apply blk_drewN) | (with_reducible apply blk_set) | ((with_reducible apply blk_far2); (focus (first | omega | (simp; done) | (simp; omega))))))); (focus rfl)), (HZ8.out.setCell (Nat.zero_le _) _).setCell (Nat.zero_le _) _, (HK8.out.setCell (.inl (.inl rfl)) _).setCell (.inl (.inl rfl)) _⟩ ?_
  rintro w9 ⟨hS9, hL9, hR9, hz9, hk9⟩
  have HR9 := Aside0.mk (And.intro hL9 (And.intro hR9 (And.intro hz9 hk9)))
  clear hL9 hR9 hz9 hk9 HL8 HZ8 HK8 hc8 hd8 hS8 hR8 HK7 hS7 HD7 HO7' hsd hbd hsM hbM hS5
  have hlt9 := blk_lt hS9
  have hne9 := Nat.ne_of_lt hlt9
  have hc9 := fun i => blk_cell hS9 i
  have hd9 := fun i => blk_frozen hS9 i
  go_cut [76] (fun v76 w10 => ∃ g c10, Grown w10 s d bases (.slice (some ⟨g, 0, none⟩) 1 c10) (.slice none 0 0) (.int .i64 0) (.int .i64 0) (.slice A n c) (.bool false) (.int .i64 0) (.slice none 0 0) ∧ w9.heap.size ≤ g ∧ Row 3 126 w10 (.slice (some ⟨g, 0, none⟩) 1 c10) [[.int .i64 2, .int .i64 0, .int .i64 0]] ∧ Below 0 w9 w10 ∧ Kept w9 w10 (fun k => k = s))
  case first =>
    go_region_law (first
      | (go_simp; go_at_call 60; refine (grown_next (by (repeat (first | (with_reducible exact hS9) | (with_reducible apply blk_alloc) | (with_reducible apply blk_drew) | (with_reducible apply blk_drewN) | (with_reducible apply blk_set) | ((with_reducible apply blk_far2); (focus (first | omega | (simp; done) | (simp; omega)))))))).mono ?_; rintro e w10 ⟨rfl, hb⟩; obtain ⟨HB10⟩ : Aside0 (Below w9.heap.size w9 w10) := ⟨below_step (by (repeat (first | (with_reducible exact Below.refl _ _) | (with_reducible apply below_alloc) | (with_reducible apply below_drew1) | (with_reducible apply pw_below_drewN)))) hb⟩; have hS10 := blk_below hS9 HB10; have hlt10 := blk_lt hS10; have hne10 := Nat.ne_of_lt hlt10; have hc10 := (fun i => blk_cell hS10 i); have hd10 := (fun i => blk_frozen hS10 i); have HB10' := Aside0.mk HB10; clear hb HB10)
      | (refine nil_append_step (sz := 3) (e := 126) rfl (.tmp 80) (.tmp 85) 113 (.agg #[.int .i64 0, .int .i64 0, .int .i64 0]) 24 rfl Tryz.underlying113 infoPc rfl (by decide) (by decide) [.int .i64 2, .int .i64 0, .int .i64 0] rfl (by decide) (by rfl) (by rfl) (by decide) ?_; intro A11 c11 w11 ho hb hge; obtain ⟨g, cur, rfl, hg, hcur⟩ := row_one ho; replace hge := hge g rfl; clear hcur hg; have hS11 := blk_below hS10 hb; have hc11 := (fun i => blk_cell hS11 i); have hd11 := (fun i => blk_frozen hS11 i); have HO11 := Aside0.mk ho; have HB11 := Aside0.mk hb; clear ho hb))
    all_goals (go_wp2_with fail)
    all_goals go_meet
    all_goals (case rel =>
      have hb11 : Below w10.heap.size w10 w11 := below_step (by (repeat (first | (with_reducible exact Below.refl _ _) | (with_reducible apply below_alloc) | (with_reducible apply below_drew1) | (with_reducible apply pw_below_drewN)))) HB11.out
      refine ⟨g, c11, by (apply blk_is; (focus (repeat (first | (with_reducible exact hS11) | (with_reducible apply blk_alloc) | (with_reducible apply blk_drew) | (with_reducible apply blk_drewN) | (with_reducible apply blk_set) | ((with_reducible apply blk_far2); (focus (first | omega | (simp; done) | (simp; omega))))))); (focus rfl)), Nat.le_trans (below_step HB10'.out (by (repeat (first | (with_reducible exact Below.refl _ _) | (with_reducible apply below_alloc) | (with_reducible apply below_drew1) | (with_reducible apply pw_below_drewN))) : Below w10.heap.size w10 _)).size hge, by (repeat (first | (with_reducible exact HO11.out) | (with_reducible apply Row.alloc) | (with_reducible apply Row.drew) | (with_reducible apply Row.drewN) | ((with_reducible apply Row.set2); (focus (repeat (first | (with_reducible exact hS11) | (with_reducible apply blk_alloc) | (with_reducible apply blk_drew) | (with_reducible apply blk_drewN) | (with_reducible apply blk_set) | ((with_reducible apply blk_far2); (focus (first | omega | (simp; done) | (simp; omega))))))); (focus decide)))), ?_, ?_⟩
      · exact ((below_zero (below_step HB10'.out hb11)).setCell (Nat.zero_le _) _)
      · exact (Kept.of_below (below_step HB10'.out hb11) (fun k => k = s)).setCell (.inl rfl) _)
  case rest =>
    obtain ⟨g, c10, hS10, hgz, hP, hz10, hk10⟩ := hcut
    obtain ⟨g', cur, hgg, hG10, hcur⟩ := row_one hP
    obtain rfl : g = g' := by simpa using hgg
    have hsg : s ≠ g := blk_ne hS10 hG10 (by decide)
    have hp3 : wc.cell? ⟨s, 3, none⟩ = some (.slice (some ⟨g, 0, none⟩) 1 c10) := blk_cell hS10 3
    have hp2 : wc.cell? ⟨g, 2, none⟩ = some (.int .i64 0) := (blk_cell hG10 2).trans (hcur 2 _ rfl)
    have hpd : wc.frozen? ⟨g, 2, none⟩ = false := blk_frozen hG10 2
    have hbs : b ≠ s := blk_ne HR9.out.2.1 hS9 (by decide)
    have H10 := Aside0.mk (And.intro hz10 (And.intro hk10 hgz))
    have HG := Aside0.mk (And.intro hG10 hcur)
    clear hz10 hk10 hgz hP hgg hcur hG10 hc9 hd9 hlt9 hne9
    go_upto_region 17 with fail
    have hcs := fun i => blk_cell hS10 i
    have hds := fun i => blk_frozen hS10 i
    go_region
    refine cont (fun w11 => Grown w11 s d bases (.slice (some ⟨g, 0, none⟩) 1 c10) (.slice none 0 0) (.int .i64 0) (.int .i64 0) (.slice A n c) (.bool false) (.int .i64 0) (.slice none 0 0) ∧ Below 0 w9 w11 ∧ Kept w9 w11 (fun k => k = s))
      ⟨by (repeat (first | (with_reducible exact hS10) | (with_reducible apply blk_alloc) | (with_reducible apply blk_drew) | (with_reducible apply blk_drewN) | (with_reducible apply blk_set) | ((with_reducible apply blk_far2); (focus (first | omega | (simp; done) | (simp; omega)))))), ((H10.out.1.setCell (Nat.zero_le _) _).drew), ((H10.out.2.1.setCell (.inr H10.out.2.2) _).drew)⟩ ?_
    rintro w11 ⟨hS11, hz11, hk11⟩
    have hR11 := blk_kept HR9.out.2.1 hk11 hbs
    have hL11 := HR9.out.1.kept hk11 (fun k cells hc h => by
      subst h
      have := hc.symm.trans hS9
      simp at this)
    have H11 := Aside0.mk (And.intro hL11 (And.intro (HR9.out.2.2.1.trans hz11) (HR9.out.2.2.2.then_ hk11 (fun k h => .inl (.inl h)))))
    clear hL11 hz11 hk11 hp3 hp2 hpd hS10 hS9 H10 HG HR9 hsg
    have hc11 := fun i => blk_cell hS11 i
    have hd11 := fun i => blk_frozen hS11 i
    have hlt11 := blk_lt hS11
    have hne11 := Nat.ne_of_lt hlt11
    go_wp2_with (first
      | ((with_reducible refine gate_builtin (b := .append) (xs := #[.tmp 111, .tmp 112]) rfl ?_); at_builtin; refine nil_append_rows (sz := 7) (e := 62) rfl (.tmp 111) (.tmp 112) 22 (.agg #[.int .i64 0, .int .i64 0, .int .i64 0, .int .i64 0, .int .i64 0, .int .i64 0, .int .i64 0]) 56 rfl Tryz.underlying22 infoR rfl (by decide) (by decide) (some ⟨b, 0, none⟩) 1 1 [[.int .i64 0, .int .i64 0, .int .i64 1, .int .i64 1, .int .i64 5, .int .i64 0, .int .i64 0]] (lit_C (row := [.int .i64 0, .int .i64 0, .int .i64 1, .int .i64 1, .int .i64 5, .int .i64 0, .int .i64 0]) hR11 rfl (by decide)) rfl rfl (by decide) ?_; intro A12 c12 w12 ho hb; have hS12 := blk_below hS11 hb; have hc12 := (fun i => blk_cell hS12 i); have hd12 := (fun i => blk_frozen hS12 i); have HB12 := Aside0.mk hb; have hR12 : RecAt (w12.setCell ⟨s, 4, none⟩ (.slice A12 1 c12)) b := blk_far (blk_below hR11 hb) hbs _; have HL12 : Aside0 (Row 1 3 (w12.setCell ⟨s, 4, none⟩ (.slice A12 1 c12)) (.slice A n c) [[.int .i64 0]]) := ⟨Row.set2 hS12 (by decide) (H11.out.1.below hb)⟩; have hS13 : Grown (w12.setCell ⟨s, 4, none⟩ (.slice A12 1 c12)) s d bases (.slice (some ⟨g, 0, none⟩) 1 c10) (.slice A12 1 c12) (.int .i64 0) (.int .i64 0) (.slice A n c) (.bool false) (.int .i64 0) (.slice none 0 0) := blk_is (blk_set hS12 4 _) rfl; clear ho hb hc11 hd11)
      | (go_at_call 98; refine (take1 A n c b _ HL12.out hR12).mono ?_; rintro e w13 ⟨A', c', B', d', rfl, hr1, hr3, hz, hk⟩; have hS14 := blk_kept hS13 hk (row_not HL12.out hS13 (by decide)); have hc14 := (fun i => blk_cell hS14 i); have hd14 := (fun i => blk_frozen hS14 i); have HF := Aside0.mk (And.intro hr1 (And.intro hr3 (And.intro hz hk))); clear hr1 hr3 hz hk hc12 hd12; dsimp only [snapV]))
    go_ret
    refine ⟨rfl, ⟨_, _, _, _, _, _, _, _, _, A', c', B', d', by (apply blk_is; (focus (repeat (first | (with_reducible exact hS14) | (with_reducible apply blk_alloc) | (with_reducible apply blk_drew) | (with_reducible apply blk_drewN) | (with_reducible apply blk_set) | ((with_reducible apply blk_far2); (focus (first | omega | (simp; done) | (simp; omega))))))); (focus rfl)), by (repeat (first | (with_reducible exact HF.out.1) | (with_reducible apply Row.alloc) | (with_reducible apply Row.drew) | (with_reducible apply Row.drewN) | ((with_reducible apply Row.set2); (focus (repeat (first | (with_reducible exact hS14) | (with_reducible apply blk_alloc) | (with_reducible apply blk_drew) | (with_reducible apply blk_drewN) | (with_reducible apply blk_set) | ((with_reducible apply blk_far2); (focus (first | omega | (simp; done) | (simp; omega))))))); (focus decide)))), by (repeat (first | (with_reducible exact HF.out.2.1) | (with_reducible apply Row.alloc) | (with_reducible apply Row.drew) | (with_reducible apply Row.drewN) | ((with_reducible apply Row.set2); (focus (repeat (first | (with_reducible exact hS14) | (with_reducible apply blk_alloc) | (with_reducible apply blk_drew) | (with_reducible apply blk_drewN) | (with_reducible apply blk_set) | ((with_reducible apply blk_far2); (focus (first | omega | (simp; done) | (simp; omega))))))); (focus decide))))⟩, ?_, ?_⟩
    · have z := (((H11.out.2.1.trans (below_zero HB12.out)).setCell (Nat.zero_le _) _).trans HF.out.2.2.1 : Below 0 w w13)
      exact (((((z.setCell (Nat.zero_le _) _).setCell (Nat.zero_le _) _).setCell (Nat.zero_le _) _).setCell (Nat.zero_le _) _).setCell (Nat.zero_le _) _).setCell (Nat.zero_le _) _
    · have z := ((H11.out.2.2.below HB12.out).setCell (.inl (.inl rfl)) _).then_ HF.out.2.2.2 (fun k h => .inl (.inr (.inr (.inr h))))
      exact (((((z.setCell (.inl (.inl rfl)) _).setCell (.inl (.inl rfl)) _).setCell (.inl (.inl rfl)) _).setCell (.inl (.inl rfl)) _).setCell (.inl (.inl rfl)) _).setCell (.inl (.inl rfl)) _
end Go.Proofs.YtgljebaiakhbfaaGreat.Aw
