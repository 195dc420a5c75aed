/- What this text proves: the functions that a law reaches, as functions on numbers and lists, and that Go's come to their answers; no condition. Written by the kit's print program, turned (wip/tools/patch_print.py). -/
import Derived.Test.YteojopdcmdipaaaQCodecStatesx0
import Derived.Test.YteojopdcmdipaaaQCodecStatesx3
import Derived.Test.YteojopdcmdipaaaQCodecStatesx7
namespace Go.Proofs.Yteojopdcmdipaaa.QCodecStates
open Go.RowKit Go.Proofs.YteojopdcmdipaaaW.PrintWords Go.Proofs.YteojopdcmdipaaaW.PrintLast Go.Proofs.YteojopdcmdipaaaW.PrintMore
attribute [local go_sem] max2_int min2_int max_two min_two max_three min_three max_four min_four   -- for this text's walks alone
set_option linter.unusedVariables false
set_option linter.unusedSimpArgs false

/-! ### codec_DecodeState: function 17 -/
/-- What a reader holds: the bytes that are left, and whether all numbers were there; both in variables of the call's own. -/
def codec_DecodeState.RS (w W : World) (B F : Nat) (v : Value) (fine : Bool) : Prop :=
  W.heap[B]? = some (.cells #[v] 25 (0, 0)) ∧ W.heap[F]? = some (.cells #[.bool fine] 4 (0, 0)) ∧ Below w.heap.size w W ∧ w.heap.size ≤ B ∧ w.heap.size ≤ F ∧ B ≠ F
theorem codec_DecodeState.RS.below {w W W1 : World} {B F : Nat} {v : Value} {fine : Bool} (h : codec_DecodeState.RS w W B F v fine) (hb : Below W.heap.size W W1) : codec_DecodeState.RS w W1 B F v fine :=
  ⟨blk_below h.1 hb, blk_below h.2.1 hb, below_step h.2.2.1 hb, h.2.2.2.1, h.2.2.2.2.1, h.2.2.2.2.2⟩
theorem codec_DecodeState.RS.kept {w W W1 : World} {B F : Nat} {v : Value} {fine : Bool} (h : codec_DecodeState.RS w W B F v fine) {S : Nat → Prop} (hk : Kept W W1 S) (hB : ¬ S B) (hF : ¬ S F) (hb : Below w.heap.size w W1) : codec_DecodeState.RS w W1 B F v fine :=
  ⟨blk_kept h.1 hk hB, blk_kept h.2.1 hk hF, hb, h.2.2.2.1, h.2.2.2.2.1, h.2.2.2.2.2⟩
/-- Two stores: into the variable of the flag, then into that of the bytes. -/
theorem codec_DecodeState.RS.two {w W : World} {B F : Nat} {v v2 : Value} {fine fine2 : Bool} (h : codec_DecodeState.RS w W B F v fine) : codec_DecodeState.RS w ((W.setCell ⟨F, 0, none⟩ (.bool fine2)).setCell ⟨B, 0, none⟩ v2) B F v2 fine2 := by
  obtain ⟨hb, hf, hbel, hB, hF, hne⟩ := h
  refine ⟨one_setCell (blk_far hb (p := ⟨F, 0, none⟩) hne _), blk_far (one_setCell hf) (p := ⟨B, 0, none⟩) (Ne.symm hne) _, below_set (below_set hbel hF) hB, hB, hF, hne⟩
theorem codec_DecodeState.RS.two_kept {W : World} {B F : Nat} (u v : Value) : Kept W ((W.setCell ⟨F, 0, none⟩ u).setCell ⟨B, 0, none⟩ v) (fun k => k = B ∨ k = F) :=
  ⟨by simp, fun i _ hn => (Below.heap_setCell _ _ _ i (fun e => hn (.inl e))).trans (Below.heap_setCell _ _ _ i (fun e => hn (.inr e)))⟩
set_option maxHeartbeats 8000000 in
set_option maxRecDepth 100000 in
/-- get(ferryman/num.Get). -/
theorem codec_DecodeState.get (k : Nat) (w W : World) (B F : Nat) (A : Option Addr) (c : Nat) (l : List Int) (fine : Bool) (r1 r2 : Int) (hS : codec_DecodeState.RS w W B F (.slice A l.length c) fine) (hr : Kd.C (Kd.int .u8) w A l.length l) (hc : l.length ≤ c)
    (h : num_Get.f k l = some (r1, r2)) (h0 : 0 ≤ r2) (h1 : r2 ≤ l.length) :
    Calls Try.prog 40 #[.func (.func 27) #[] #[], .pointer (some ⟨B, 0, none⟩), .pointer (some ⟨F, 0, none⟩)] W fun e W' => ∃ A', e = .returned (.int .i64 r1) ∧ codec_DecodeState.RS w W' B F (.slice A' (l.drop r2.toNat).length (c - r2.toNat)) (fine && decide (r2 > 0)) ∧
      Kd.C (Kd.int .u8) w A' (l.drop r2.toNat).length (l.drop r2.toNat) ∧ (l.drop r2.toNat).length ≤ c - r2.toNat ∧ Kept W W' (fun k => k = B ∨ k = F) := by
  have hinf : (Try.prog.info? 5).map (fun i => (i.zero, i.size, i.bytes)) = some (some (.int .u8 0), 1, 1) := by kernel_rfl
  obtain ⟨i0, hi0, _, hz1, _⟩ := info_parts hinf
  obtain ⟨A', hrun, hread, hlen⟩ := print_cut_int (P := Try.prog) (k := .u8) 25 5 Try.underlying25 hi0 hz1 A c l r2 h0 h1 hc
  clear hinf hi0 hz1
  have HREAD := Aside0.mk (Kd.C_of_reads (enc := Value.int .u8) (d := (0 : Int)) (h1 := fun _ => rfl) (hread w (Kd.reads_of_C (enc := Value.int .u8) (d := (0 : Int)) (h1 := fun _ => rfl) hr)))
  have HLEN := Aside0.mk hlen
  have HS := Aside0.mk hS
  have HR := Aside0.mk (Kd.C_below hr hS.2.2.1)
  have HC := Aside0.mk hc
  have H := Aside0.mk h
  have cB := cell_of_one hS.1
  have cF := cell_of_one hS.2.1
  have HN := Aside0.mk hS.2.2.2.2.2
  clear hread hlen hS hr hc h
  by_cases hp : r2 > 0
  all_goals
    cases fine
    all_goals
      go_enter Try.func40, Try.ntmps40
      go_wp2_with (first
        | (go_at_call 27; refine (num_Get.calls k A c l r1 r2 _ HR.out HC.out H.out).mono ?_; rintro e W1 ⟨rfl, hb1⟩; have HS1 := Aside0.mk (HS.out.below hb1); have HB1 := Aside0.mk hb1; clear hb1; have dB := cell_of_one HS1.out.1; have dF := cell_of_one HS1.out.2.1; have fB := free_of_one HS1.out.1; have fF := free_of_one HS1.out.2.1; have dB2 := fun u => cell_of_one (blk_far HS1.out.1 (p := ⟨F, 0, none⟩) HN.out u); have fB2 := fun u => free_of_one (blk_far HS1.out.1 (p := ⟨F, 0, none⟩) HN.out u)))
      go_ret
      refine ⟨A', rfl, ?_, HREAD.out, HLEN.out, (Kept.of_below HB1.out _).then_ (codec_DecodeState.RS.two_kept _ _) (fun _ h => .inl h)⟩
      rw [List.length_drop]
      first | exact HS1.out.two | (rw [Bool.true_and, decide_eq_true hp]; exact HS1.out.two) | (rw [Bool.true_and, decide_eq_false hp]; exact HS1.out.two)
set_option maxHeartbeats 8000000 in
set_option maxRecDepth 100000 in
/-- get(ferryman/num.GetSigned). -/
theorem codec_DecodeState.gets (k : Nat) (w W : World) (B F : Nat) (A : Option Addr) (c : Nat) (l : List Int) (fine : Bool) (r1 r2 : Int) (hS : codec_DecodeState.RS w W B F (.slice A l.length c) fine) (hr : Kd.C (Kd.int .u8) w A l.length l) (hc : l.length ≤ c)
    (h : num_GetSigned.f k l = some (r1, r2)) (h0 : 0 ≤ r2) (h1 : r2 ≤ l.length) :
    Calls Try.prog 40 #[.func (.func 28) #[] #[], .pointer (some ⟨B, 0, none⟩), .pointer (some ⟨F, 0, none⟩)] W fun e W' => ∃ A', e = .returned (.int .i64 r1) ∧ codec_DecodeState.RS w W' B F (.slice A' (l.drop r2.toNat).length (c - r2.toNat)) (fine && decide (r2 > 0)) ∧
      Kd.C (Kd.int .u8) w A' (l.drop r2.toNat).length (l.drop r2.toNat) ∧ (l.drop r2.toNat).length ≤ c - r2.toNat ∧ Kept W W' (fun k => k = B ∨ k = F) := by
  have hinf : (Try.prog.info? 5).map (fun i => (i.zero, i.size, i.bytes)) = some (some (.int .u8 0), 1, 1) := by kernel_rfl
  obtain ⟨i0, hi0, _, hz1, _⟩ := info_parts hinf
  obtain ⟨A', hrun, hread, hlen⟩ := print_cut_int (P := Try.prog) (k := .u8) 25 5 Try.underlying25 hi0 hz1 A c l r2 h0 h1 hc
  clear hinf hi0 hz1
  have HREAD := Aside0.mk (Kd.C_of_reads (enc := Value.int .u8) (d := (0 : Int)) (h1 := fun _ => rfl) (hread w (Kd.reads_of_C (enc := Value.int .u8) (d := (0 : Int)) (h1 := fun _ => rfl) hr)))
  have HLEN := Aside0.mk hlen
  have HS := Aside0.mk hS
  have HR := Aside0.mk (Kd.C_below hr hS.2.2.1)
  have HC := Aside0.mk hc
  have H := Aside0.mk h
  have cB := cell_of_one hS.1
  have cF := cell_of_one hS.2.1
  have HN := Aside0.mk hS.2.2.2.2.2
  clear hread hlen hS hr hc h
  by_cases hp : r2 > 0
  all_goals
    cases fine
    all_goals
      go_enter Try.func40, Try.ntmps40
      go_wp2_with (first
        | (go_at_call 28; refine (num_GetSigned.calls k A c l r1 r2 _ HR.out HC.out H.out).mono ?_; rintro e W1 ⟨rfl, hb1⟩; have HS1 := Aside0.mk (HS.out.below hb1); have HB1 := Aside0.mk hb1; clear hb1; have dB := cell_of_one HS1.out.1; have dF := cell_of_one HS1.out.2.1; have fB := free_of_one HS1.out.1; have fF := free_of_one HS1.out.2.1; have dB2 := fun u => cell_of_one (blk_far HS1.out.1 (p := ⟨F, 0, none⟩) HN.out u); have fB2 := fun u => free_of_one (blk_far HS1.out.1 (p := ⟨F, 0, none⟩) HN.out u)))
      go_ret
      refine ⟨A', rfl, ?_, HREAD.out, HLEN.out, (Kept.of_below HB1.out _).then_ (codec_DecodeState.RS.two_kept _ _) (fun _ h => .inl h)⟩
      rw [List.length_drop]
      first | exact HS1.out.two | (rw [Bool.true_and, decide_eq_true hp]; exact HS1.out.two) | (rw [Bool.true_and, decide_eq_false hp]; exact HS1.out.two)
set_option maxHeartbeats 8000000 in
set_option maxRecDepth 100000 in
theorem codec_DecodeState.reader (w : World) (A : Option Addr) (n c : Nat) :
    Calls Try.prog 26 #[.slice A n c] w fun e W => e = .returned (.tuple #[.func (.func 40) #[] #[.pointer (some ⟨w.heap.size, 0, none⟩), .pointer (some ⟨w.heap.size + 1, 0, none⟩)], .func (.func 41) #[] #[.pointer (some ⟨w.heap.size + 1, 0, none⟩)], .func (.func 42) #[] #[.pointer (some ⟨w.heap.size, 0, none⟩)]]) ∧ codec_DecodeState.RS w W w.heap.size (w.heap.size + 1) (.slice A n c) true := by
  have hmf : ∀ fn first cap w, (Instr.makeFunc fn first cap).run Try.prog w = .ok (.func fn first cap) w := fun _ _ _ _ => rfl
  go_enter Try.func26, Try.ntmps26
  go_wp2
  go_ret3
  refine ⟨rfl, blk_alloc (heap_alloc_new _ _) _, ?_, below_alloc (below_alloc (Below.refl _ _) _) _, by omega, by omega, by omega⟩
  have := heap_alloc_new (w.alloc (.cells #[.slice A n c] 25)) (.cells #[.bool true] 4)
  rw [World.size_alloc] at this
  exact this
theorem codec_DecodeState.whole (w W : World) (B F : Nat) (v : Value) (fine : Bool) (hS : codec_DecodeState.RS w W B F v fine) :
    Calls Try.prog 41 #[.pointer (some ⟨F, 0, none⟩)] W fun e W' => e = .returned (.bool fine) ∧ W = W' := by
  have cF := cell_of_one hS.2.1
  go_enter Try.func41, Try.ntmps41
  go_wp2
  go_ret
  exact ⟨rfl, rfl⟩
theorem codec_DecodeState.left (w W : World) (B F : Nat) (A : Option Addr) (n c : Nat) (fine : Bool) (hS : codec_DecodeState.RS w W B F (.slice A n c) fine) :
    Calls Try.prog 42 #[.pointer (some ⟨B, 0, none⟩)] W fun e W' => e = .returned (.int .i64 n) ∧ W = W' := by
  have cB := cell_of_one hS.1
  go_enter Try.func42, Try.ntmps42
  go_wp2
  go_ret
  exact ⟨rfl, rfl⟩
theorem codec_DecodeState.RS.far {w W : World} {B F : Nat} {v : Value} {fine : Bool} (h : codec_DecodeState.RS w W B F v fine) {G j : Nat} (hB : G ≠ B) (hF : G ≠ F) (hG : w.heap.size ≤ G) (u : Value) : codec_DecodeState.RS w (W.setCell ⟨G, j, none⟩ u) B F v fine :=
  ⟨blk_far h.1 (p := ⟨G, j, none⟩) (Ne.symm hB) _, blk_far h.2.1 (p := ⟨G, j, none⟩) (Ne.symm hF) _, below_set h.2.2.1 hG, h.2.2.2.1, h.2.2.2.2.1, h.2.2.2.2.2⟩
theorem codec_DecodeState.RS.grown {w W W1 : World} {B F : Nat} {v : Value} {fine : Bool} (h : codec_DecodeState.RS w W B F v fine) {row : Option Nat} (hg : W.grownBy W1 row) (hB : some B ≠ row) (hF : some F ≠ row) (hb : Below w.heap.size w W1) : codec_DecodeState.RS w W1 B F v fine :=
  ⟨blk_grown h.1 hg hB, blk_grown h.2.1 hg hF, hb, h.2.2.2.1, h.2.2.2.2.1, h.2.2.2.2.2⟩
theorem codec_DecodeState.append_law {P : Program} {ops : Array Oper} {o : Oper} {a : Act} {Q : Exit → Act → World → Prop} {Kc : Act → World → Prop} {E : Prop} {α : Type} (d : Kd α) {w0 W : World} (base : Nat) (hgd : o.guard = none) (s x : Operand) (t e : TypeId) (z : Value) (bytes : Nat)
    (ho : o.op = .call { callee := .builtin .append, args := #[s, x], argTypes := #[t, t] })
    (ht : P.underlying t = some (.slice e)) (hinfo : (P.info? e).map (fun i => (i.zero, i.size, i.bytes)) = some (some z, d.sz, bytes)) (hz : z.cells.size = d.sz) (hs0 : 0 < d.sz) (hb0 : 0 < bytes)
    (v : Value) (xs : List α) (p : α) (cs : List Value) (ok okp : Nat → Prop) (hs : a.eval s = v) (hx : a.eval x = .slice (some ⟨W.heap.size, 0, none⟩) 1 1) (hp : d.M W base okp p cs) (hokp : ∀ k, okp k → ok k ∧ some k ≠ v.ownBlock) (hfresh : ∀ k, W.heap.size ≤ k → ok k)
    (HO : d.R e W base ok v xs) (HB : Below base w0 W) (hbase : base ≤ W.heap.size) (hl : (xs.length + 1) * bytes ≤ 140737488355328)
    (h : ∀ v1 w1, d.R e w1 base ok v1 (xs ++ [p]) → Below base w0 w1 → W.grownBy w1 v.ownBlock → (v1.ownBlock = v.ownBlock ∨ ∃ b, v1.ownBlock = some b ∧ W.heap.size ≤ b) → Kc (a.put o.dst v1) w1) :
    if Region.wanted o (yielded ops a.tmps) = true then Oper.wp P o a (W.alloc (.cells cs.toArray e)) Kc Q else E := by
  have hw : Region.wanted o (yielded ops a.tmps) = true := by simp [Region.wanted, hgd]
  have h2 := Kd.R_append_step (P := P) (ops := ops) (o := o) (a := a) (Q := Q) (Kc := Kc) d base hw s x t e z bytes ho ht hinfo hz hs0 hb0 v xs p cs ok okp hs hx hp hokp hfresh HO HB hbase hl h
  rw [if_pos hw] at h2 ⊢
  exact h2
theorem codec_DecodeState.RS.drew {w W : World} {B F : Nat} {v : Value} {fine : Bool} (h : codec_DecodeState.RS w W B F v fine) : codec_DecodeState.RS w W.drew B F v fine :=
  ⟨blk_drew h.1, blk_drew h.2.1, below_drew1 h.2.2.1, h.2.2.2.1, h.2.2.2.2.1, h.2.2.2.2.2⟩
theorem codec_DecodeState.fine3 {a b c : Bool} (h : true = (((true && a) && b) && c)) : a = true ∧ b = true ∧ c = true := by
  cases a <;> cases b <;> cases c <;> simp_all
/-- So many numbers, one behind the other. -/
def codec_DecodeState.nums (k : Nat) : Nat → List Int → Bool → List Int → Option (List Int × Bool × List Int)
  | 0, l, fine, xs => some (xs, fine, l)
  | n + 1, l, fine, xs => (num_GetSigned.f k l).bind fun g => if 0 ≤ g.2 then (if g.2 ≤ l.length then codec_DecodeState.nums k n (l.drop g.2.toNat) (fine && decide (g.2 > 0)) (xs ++ [g.1]) else none) else none
theorem codec_DecodeState.nums_mono (k : Nat) : ∀ n l fine xs, LeO (codec_DecodeState.nums k n l fine xs) (codec_DecodeState.nums (k + 1) n l fine xs)
  | 0, _, _, _ => LeO.refl _
  | n + 1, l, fine, xs => by
    unfold codec_DecodeState.nums
    repeat' first
      | (with_reducible exact num_GetSigned.mono _ _)
      | (with_reducible exact codec_DecodeState.nums_mono k n _ _ _)
      | (with_reducible exact LeO.refl _)
      | (with_reducible refine LeO.ite ?_ ?_)
      | (with_reducible refine LeO.bind ?_ (fun _ => ?_))
def codec_DecodeState.f (k : Nat) (l0 : List Int) : Option (Int × List Int × Bool × Int × Int) :=
  (num_Get.f k l0).bind fun p => (if 0 ≤ p.2 then (if p.2 ≤ l0.length then
  ((num_Get.f k (l0.drop p.2.toNat)).bind fun q => (if 0 ≤ q.2 then (if q.2 ≤ (l0.drop p.2.toNat).length then
  ((num_Get.f k ((l0.drop p.2.toNat).drop q.2.toNat)).bind fun s => (if 0 ≤ s.2 then (if s.2 ≤ ((l0.drop p.2.toNat).drop q.2.toNat).length then
  (if p.2 > 0 ∧ q.2 > 0 ∧ s.2 > 0 ∧ q.1 ≤ 3 ∧ s.1 ≤ 128 then
    ((codec_DecodeState.nums k s.1.toNat (((l0.drop p.2.toNat).drop q.2.toNat).drop s.2.toNat) true []).bind fun x =>
      (if x.2.1 = true ∧ x.2.2.length = 0 then ((objs_May.f k p.1 x.1 (decide (q.1 > 0)) (if wrap64 (q.1 - 1) < 0 then 0 else wrap64 (q.1 - 1))).bind fun t =>
        some (if t = true then (p.1, x.1, decide (q.1 > 0), (if wrap64 (q.1 - 1) < 0 then 0 else wrap64 (q.1 - 1)), 0) else (0, [], false, 0, 1)))
       else some (0, [], false, 0, 3)))
   else some (0, [], false, 0, 3))
  else none) else none)) else none) else none)) else none) else none)
theorem codec_DecodeState.mono : ∀ a0 k, LeO (codec_DecodeState.f k a0) (codec_DecodeState.f (k + 1) a0) := by
  intro a0 k
  unfold codec_DecodeState.f
  repeat' first
      | (with_reducible exact num_Get.mono _ _)
      | (with_reducible exact codec_DecodeState.nums_mono _ _ _ _ _)
      | (with_reducible exact objs_May.mono _ _ _ _ _)
      | (with_reducible exact LeO.refl _)
      | (with_reducible refine LeO.ite ?_ ?_)
      | (with_reducible refine LeO.bind ?_ (fun _ => ?_))
set_option maxHeartbeats 8000000 in
set_option maxRecDepth 100000 in
theorem codec_DecodeState.calls (k : Nat) (A0 : Option Addr) (c0 : Nat) (l0 : List Int) (r1 : Int) (r2 : List Int) (r3 : Bool) (r4 r5 : Int) (w : World) (hr0 : Kd.C (Kd.int .u8) w A0 l0.length l0) (hc0 : l0.length ≤ c0) (h : codec_DecodeState.f k l0 = some (r1, r2, r3, r4, r5)) :
    Calls Try.prog 17 #[.slice A0 l0.length c0] w fun e w' => ∃ v1_ : Value, e = .returned (.tuple #[.agg #[.int .i64 r1, v1_, .bool r3, .int .i64 r4], .int .i64 r5]) ∧ Kd.R (Kd.int .i64) 3 w' w.heap.size (fun _ => True) v1_ r2 ∧ Below w.heap.size w w' := by
  unfold codec_DecodeState.f at h
  rw [Option.bind_eq_some_iff] at h
  obtain ⟨⟨p1, p2⟩, hp, h⟩ := h
  by_cases hp0 : 0 ≤ p2
  case neg => exact absurd h (by simp [hp0])
  by_cases hp1 : p2 ≤ l0.length
  case neg => exact absurd h (by simp [hp1])
  rw [if_pos hp0, if_pos hp1, Option.bind_eq_some_iff] at h
  obtain ⟨⟨q1, q2⟩, hq, h⟩ := h
  obtain ⟨l1, hl1⟩ : ∃ l1, l1 = l0.drop p2.toNat := ⟨_, rfl⟩
  simp only [← hl1] at hq h
  by_cases hq0 : 0 ≤ q2
  case neg => exact absurd h (by simp [hq0])
  by_cases hq1 : q2 ≤ l1.length
  case neg => exact absurd h (by simp [hq1])
  rw [if_pos hq0, if_pos hq1, Option.bind_eq_some_iff] at h
  obtain ⟨⟨s1, s2⟩, hs, h⟩ := h
  obtain ⟨l2, hl2⟩ : ∃ l2, l2 = l1.drop q2.toNat := ⟨_, rfl⟩
  simp only [← hl2] at hs h
  by_cases hs0 : 0 ≤ s2
  case neg => exact absurd h (by simp [hs0])
  by_cases hs1 : s2 ≤ l2.length
  case neg => exact absurd h (by simp [hs1])
  rw [if_pos hs0, if_pos hs1] at h
  obtain ⟨l3, hl3⟩ : ∃ l3, l3 = l2.drop s2.toNat := ⟨_, rfl⟩
  simp only [← hl3] at h
  have H := Aside0.mk h
  have HP := Aside0.mk hp
  have HQ := Aside0.mk hq
  have HS := Aside0.mk hs
  have HR0 := Aside0.mk hr0
  have HC0 := Aside0.mk hc0
  have HP0 := Aside0.mk hp0
  have HP1 := Aside0.mk hp1
  have HQ0 := Aside0.mk hq0
  have HQ1 := Aside0.mk hq1
  have HS0 := Aside0.mk hs0
  have HS1 := Aside0.mk hs1
  have L1 := Aside0.mk hl1
  have L2 := Aside0.mk hl2
  have L3 := Aside0.mk hl3
  clear h hp hq hs hr0 hc0 hp0 hp1 hq0 hq1 hs0 hs1 hl1 hl2 hl3
  obtain ⟨wb, hwb⟩ : ∃ wb, wb = w.alloc (.cells #[.int .i64 0, .slice none 0 0, .bool false, .int .i64 0] 35) := ⟨_, rfl⟩
  have HWB := Aside0.mk hwb
  have HBW := Aside0.mk (below_alloc (Below.refl _ _) (.cells #[.int .i64 0, .slice none 0 0, .bool false, .int .i64 0] 35) : Below w.heap.size w (w.alloc (.cells #[.int .i64 0, .slice none 0 0, .bool false, .int .i64 0] 35)))
  have HOB := Aside0.mk (heap_alloc_new w (.cells #[.int .i64 0, .slice none 0 0, .bool false, .int .i64 0] 35))
  rw [← hwb] at HBW HOB
  clear hwb
  go_enter Try.func17, Try.ntmps17
  have tokA_ : True := trivial
  have tokB_ : True := trivial
  have tokC_ : True := trivial
  have tokD_ : True := trivial
  have tokE_ : True := trivial
  go_wp2_with (first
    | (clear tokA_; go_at_call 26; refine (codec_DecodeState.reader _ _ _ _).mono ?_; rintro e W0 ⟨rfl, hS0⟩; rw [← HWB.out] at hS0 ⊢; obtain ⟨B, hB⟩ : ∃ B, B = wb.heap.size := ⟨_, rfl⟩; rw [← hB] at hS0 ⊢; obtain ⟨F, hF⟩ : ∃ F, F = B + 1 := ⟨_, rfl⟩; rw [← hF] at hS0 ⊢; have HRS0 := Aside0.mk hS0; clear hS0 hB hF)
    | (clear tokB_; go_at_call 40; refine (codec_DecodeState.get k wb _ B F A0 c0 l0 true p1 p2 HRS0.out (Kd.C_below HR0.out HBW.out) HC0.out HP.out HP0.out HP1.out).mono ?_; rintro e W1 ⟨A1, rfl, hS1, hr1, hc1, hk1⟩; rw [← L1.out] at hS1 hr1 hc1; have HRS1 := Aside0.mk hS1; have HR1 := Aside0.mk hr1; have HC1 := Aside0.mk hc1; clear hS1 hr1 hc1 hk1)
    | (clear tokC_; go_at_call 40; refine (codec_DecodeState.get k wb _ B F _ _ l1 _ q1 q2 HRS1.out HR1.out HC1.out HQ.out HQ0.out HQ1.out).mono ?_; rintro e W2 ⟨A2, rfl, hS2, hr2, hc2, hk2⟩; rw [← L2.out] at hS2 hr2 hc2; have HRS2 := Aside0.mk hS2; have HR2 := Aside0.mk hr2; have HC2 := Aside0.mk hc2; clear hS2 hr2 hc2 hk2)
    | (clear tokD_; go_at_call 40; refine (codec_DecodeState.get k wb _ B F _ _ l2 _ s1 s2 HRS2.out HR2.out HC2.out HS.out HS0.out HS1.out).mono ?_; rintro e W3 ⟨A3, rfl, hS3, hr3, hc3, hk3⟩; rw [← L3.out] at hS3 hr3 hc3; obtain ⟨fine, hfine⟩ : ∃ fine, fine = (((true && decide (p2 > 0)) && decide (q2 > 0)) && decide (s2 > 0)) := ⟨_, rfl⟩; rw [← hfine] at hS3; have HRS3 := Aside0.mk hS3; have HR3 := Aside0.mk hr3; have HC3 := Aside0.mk hc3; have HF := Aside0.mk hfine; clear hS3 hr3 hc3 hk3 hfine HRS2 HRS1 HRS0)
    | (clear tokE_; go_at_call 41; refine (codec_DecodeState.whole wb _ B F _ _ HRS3.out).mono ?_; rintro e W4 ⟨rfl, rfl⟩
       have HO3 := Aside0.mk (blk_below HOB.out HRS3.out.2.2.1)
       have sr0 : W3.cell? ⟨w.heap.size, 0, none⟩ = some (.int .i64 0) := (blk_cell HO3.out 0).trans rfl
       have sr1 : W3.cell? ⟨w.heap.size, 1, none⟩ = some (.slice none 0 0) := (blk_cell HO3.out 1).trans rfl
       have sr2 : W3.cell? ⟨w.heap.size, 2, none⟩ = some (.bool false) := (blk_cell HO3.out 2).trans rfl
       have sr3 : W3.cell? ⟨w.heap.size, 3, none⟩ = some (.int .i64 0) := (blk_cell HO3.out 3).trans rfl
       have sf0 := blk_frozen HO3.out 0
       have sf1 := blk_frozen HO3.out 1
       have sf2 := blk_frozen HO3.out 2
       have sf3 := blk_frozen HO3.out 3
       cases fine))
  · have h := H.out
    rw [if_neg (by rintro ⟨a, b, c, d, e⟩; have hf := HF.out; rw [decide_eq_true a, decide_eq_true b, decide_eq_true c] at hf; exact absurd hf (by decide))] at h
    simp only [Option.some.injEq, Prod.mk.injEq] at h
    obtain ⟨rfl, rfl, rfl, rfl, rfl⟩ := h
    refine bodyPost_ret (results_ct rfl _ _ w.heap.size 35 #[.int .i64 0, .slice none 0 0, .bool false, .int .i64 0] (0, 0) _ rfl (blk_put (blk_put (blk_put (blk_put HO3.out 0 _ rfl) 1 _ rfl) 2 _ rfl) 3 _ rfl) Try.underlying35 rfl (by kernel_rfl)) rfl ⟨_, rfl, Kd.R_nil _ _ _ _ _, ?_⟩
    exact below_set (below_set (below_set (below_set (below_step HBW.out HRS3.out.2.2.1) (Nat.le_refl _)) (Nat.le_refl _)) (Nat.le_refl _)) (Nat.le_refl _)
  · have h := H.out
    rw [if_neg (by rintro ⟨a, b, c, d, e⟩; omega)] at h
    simp only [Option.some.injEq, Prod.mk.injEq] at h
    obtain ⟨rfl, rfl, rfl, rfl, rfl⟩ := h
    refine bodyPost_ret (results_ct rfl _ _ w.heap.size 35 #[.int .i64 0, .slice none 0 0, .bool false, .int .i64 0] (0, 0) _ rfl (blk_put (blk_put (blk_put (blk_put HO3.out 0 _ rfl) 1 _ rfl) 2 _ rfl) 3 _ rfl) Try.underlying35 rfl (by kernel_rfl)) rfl ⟨_, rfl, Kd.R_nil _ _ _ _ _, ?_⟩
    exact below_set (below_set (below_set (below_set (below_step HBW.out HRS3.out.2.2.1) (Nat.le_refl _)) (Nat.le_refl _)) (Nat.le_refl _)) (Nat.le_refl _)
  · have hlt := h
    clear h
    have h := H.out
    obtain ⟨x1, x2, x3⟩ := codec_DecodeState.fine3 HF.out
    rw [if_pos hlt, if_pos ⟨of_decide_eq_true x1, of_decide_eq_true x2, of_decide_eq_true x3, by omega, by omega⟩, Option.bind_eq_some_iff] at h
    obtain ⟨⟨xs, fine, l4⟩, hn, h⟩ := h
    have HRS4 := Aside0.mk (HRS3.out.below (below_alloc (Below.refl _ _) (.cells #[.int .i64 p1, .slice none 0 0, .bool (decide (0 < q1)), .int .i64 0] 35) : Below W3.heap.size W3 (W3.alloc _)))
    have HST := Aside0.mk (heap_alloc_new W3 (.cells #[.int .i64 p1, .slice none 0 0, .bool (decide (0 < q1)), .int .i64 0] 35))
    have HGB := Aside0.mk (Nat.ne_of_gt (blk_lt HRS3.out.1))
    have HGF := Aside0.mk (Nat.ne_of_gt (blk_lt HRS3.out.2.1))
    have HGW := Aside0.mk (Nat.ne_of_gt (blk_lt HO3.out))
    have HGE := Aside0.mk (below_size HRS3.out.2.2.1)
    obtain ⟨G, hG⟩ : ∃ G, G = W3.heap.size := ⟨_, rfl⟩
    rw [← hG] at HST HGB HGF HGW HGE ⊢
    obtain ⟨W4, hW4⟩ : ∃ W4, W4 = W3.alloc (.cells #[.int .i64 p1, .slice none 0 0, .bool (decide (0 < q1)), .int .i64 0] 35) := ⟨_, rfl⟩
    rw [← hW4] at HRS4 HST ⊢
    have HN := Aside0.mk hn
    have HE := Aside0.mk h
    clear hn h H hG hW4 HRS3 HO3 sr0 sr1 sr2 sr3 sf0 sf1 sf2 sf3 hlt x1 x2 x3
    go_loopg [43] s1.toNat (fun kq v43 w' => ∃ (i : Int) (A : Option Addr) (c : Nat) (l ys : List Int) (fin : Bool) (u : Value), v43 = .int .i64 i ∧ Aside0 (0 ≤ i ∧ (s1 - i).toNat = kq ∧ s1 ≤ 128 ∧ ys.length ≤ 128 - kq) ∧ Aside0 (codec_DecodeState.nums k kq l fin ys = some (xs, fine, l4)) ∧ Aside0 (codec_DecodeState.RS wb w' B F (.slice A l.length c) fin) ∧ Aside0 (Kd.C (Kd.int .u8) wb A l.length l) ∧ Aside0 (l.length ≤ c) ∧
      Aside0 (Kd.R (Kd.int .i64) 3 w' wb.heap.size (fun _ => True) u ys) ∧ Aside0 (w'.heap[G]? = some (.cells #[.int .i64 p1, u, .bool (decide (0 < q1)), .int .i64 0] 35 (0, 0))))
    case atStart => exact ⟨0, _, _, l3, [], true, _, rfl, ⟨by omega, by omega, by omega, Nat.zero_le _⟩, HN, HRS4, HR3, HC3, ⟨Kd.R_nil _ _ _ _ _⟩, HST⟩
    case round =>
      obtain ⟨i, A, c, l, ys, fin, u, rfl, HI, HN, HRS, HR, HC, HY, HST⟩ := hrel
      have hi := HI.out
      cases gk with
      | zero =>
        have c27b0 : decide (i < s1) = false := decide_eq_false (by omega)
        clear hi
        have h := HN.out
        simp only [codec_DecodeState.nums, Option.some.injEq, Prod.mk.injEq] at h
        obtain ⟨rfl, rfl, rfl⟩ := h
        have HO := Aside0.mk (blk_below HOB.out HRS.out.2.2.1)
        have sr0 : wr.cell? ⟨w.heap.size, 0, none⟩ = some (.int .i64 0) := (blk_cell HO.out 0).trans rfl
        have sr1 : wr.cell? ⟨w.heap.size, 1, none⟩ = some (.slice none 0 0) := (blk_cell HO.out 1).trans rfl
        have sr2 : wr.cell? ⟨w.heap.size, 2, none⟩ = some (.bool false) := (blk_cell HO.out 2).trans rfl
        have sr3 : wr.cell? ⟨w.heap.size, 3, none⟩ = some (.int .i64 0) := (blk_cell HO.out 3).trans rfl
        have sf0 := blk_frozen HO.out 0
        have sf1 := blk_frozen HO.out 1
        have sf2 := blk_frozen HO.out 2
        have sf3 := blk_frozen HO.out 3
        have st0 : wr.cell? ⟨G, 0, none⟩ = some (.int .i64 p1) := (blk_cell HST.out 0).trans rfl
        have st1 : wr.cell? ⟨G, 1, none⟩ = some u := (blk_cell HST.out 1).trans rfl
        have st2 : wr.cell? ⟨G, 2, none⟩ = some (.bool (decide (0 < q1))) := (blk_cell HST.out 2).trans rfl
        have st3 : wr.cell? ⟨G, 3, none⟩ = some (.int .i64 0) := (blk_cell HST.out 3).trans rfl
        obtain ⟨AY, cY, eY⟩ := Kd.R_slice HY.out
        subst eY
        have tokA_ : True := trivial
        have tokB_ : True := trivial
        cases fin
        · have h := HE.out
          rw [if_neg (by rintro ⟨a, _⟩; exact Bool.noConfusion a)] at h
          go_wp2_with (clear tokA_; go_at_call 41; refine (codec_DecodeState.whole wb _ B F _ _ HRS.out).mono ?_; rintro e W8 ⟨rfl, rfl⟩)
          simp only [Option.some.injEq, Prod.mk.injEq] at h
          obtain ⟨rfl, rfl, rfl, rfl, rfl⟩ := h
          refine bodyPost_ret (results_ct rfl _ _ w.heap.size 35 #[.int .i64 0, .slice none 0 0, .bool false, .int .i64 0] (0, 0) _ rfl (blk_put (blk_put (blk_put (blk_put HO.out 0 _ rfl) 1 _ rfl) 2 _ rfl) 3 _ rfl) Try.underlying35 rfl (by kernel_rfl)) rfl ⟨_, rfl, Kd.R_nil _ _ _ _ _, ?_⟩
          exact below_set (below_set (below_set (below_set (below_step HBW.out HRS.out.2.2.1) (Nat.le_refl _)) (Nat.le_refl _)) (Nat.le_refl _)) (Nat.le_refl _)
        · by_cases hl : l.length = 0
          · have h := HE.out
            rw [if_pos ⟨rfl, hl⟩, Option.bind_eq_some_iff] at h
            obtain ⟨t, ht, h⟩ := h
            have HT := Aside0.mk ht
            have HE2 := Aside0.mk (Option.some.inj h)
            have hl0 : (l.length : Int) = 0 := by omega
            clear h ht hl HE
            have tokC_ : True := trivial
            go_wp2_with (first
              | (clear tokA_; go_at_call 41; refine (codec_DecodeState.whole wb _ B F _ _ HRS.out).mono ?_; rintro e W8 ⟨rfl, rfl⟩)
              | (clear tokB_; go_at_call 42; refine (codec_DecodeState.left wb _ B F A _ c _ HRS.out).mono ?_; rintro e W8 ⟨rfl, rfl⟩)
              | (clear tokC_; go_at_call 31; refine (objs_May.calls k p1 AY cY ys (decide (0 < q1)) 0 t wr (Kd.R_reads' HY.out).2.2 (Kd.R_reads' HY.out).2.1 HT.out).mono ?_; rintro e W9 ⟨rfl, hb9⟩
                 have HRS9 := Aside0.mk (HRS.out.below hb9)
                 have HO9 := Aside0.mk (blk_below HO.out hb9)
                 have HST9 := Aside0.mk (blk_below HST.out hb9)
                 have HY9 := Aside0.mk (Kd.R_below HY.out hb9)
                 clear hb9 sr0 sr1 sr2 sr3 sf0 sf1 sf2 sf3 st0 st1 st2 st3
                 have sr0 : W9.cell? ⟨w.heap.size, 0, none⟩ = some (.int .i64 0) := (blk_cell HO9.out 0).trans rfl
                 have sr1 : W9.cell? ⟨w.heap.size, 1, none⟩ = some (.slice none 0 0) := (blk_cell HO9.out 1).trans rfl
                 have sr2 : W9.cell? ⟨w.heap.size, 2, none⟩ = some (.bool false) := (blk_cell HO9.out 2).trans rfl
                 have sr3 : W9.cell? ⟨w.heap.size, 3, none⟩ = some (.int .i64 0) := (blk_cell HO9.out 3).trans rfl
                 have sf0 := blk_frozen HO9.out 0
                 have sf1 := blk_frozen HO9.out 1
                 have sf2 := blk_frozen HO9.out 2
                 have sf3 := blk_frozen HO9.out 3
                 have st0 : W9.cell? ⟨G, 0, none⟩ = some (.int .i64 p1) := (blk_cell HST9.out 0).trans rfl
                 have st1 : W9.cell? ⟨G, 1, none⟩ = some (.slice AY ys.length cY) := (blk_cell HST9.out 1).trans rfl
                 have st2 : W9.cell? ⟨G, 2, none⟩ = some (.bool (decide (0 < q1))) := (blk_cell HST9.out 2).trans rfl
                 have st3 : W9.cell? ⟨G, 3, none⟩ = some (.int .i64 0) := (blk_cell HST9.out 3).trans rfl
                 cases t))
            · have h := HE2.out
              rw [if_neg (by decide)] at h
              simp only [Prod.mk.injEq] at h
              obtain ⟨rfl, rfl, rfl, rfl, rfl⟩ := h
              refine bodyPost_ret (results_ct rfl _ _ w.heap.size 35 #[.int .i64 0, .slice none 0 0, .bool false, .int .i64 0] (0, 0) _ rfl (blk_put (blk_put (blk_put (blk_put HO9.out 0 _ rfl) 1 _ rfl) 2 _ rfl) 3 _ rfl) Try.underlying35 rfl (by kernel_rfl)) rfl ⟨_, rfl, Kd.R_nil _ _ _ _ _, ?_⟩
              exact below_set (below_set (below_set (below_set (below_step HBW.out HRS9.out.2.2.1) (Nat.le_refl _)) (Nat.le_refl _)) (Nat.le_refl _)) (Nat.le_refl _)
            · have h := HE2.out
              rw [if_pos trivial] at h
              simp only [Prod.mk.injEq] at h
              obtain ⟨rfl, rfl, rfl, rfl, rfl⟩ := h
              refine bodyPost_ret (results_ct rfl _ _ w.heap.size 35 #[.int .i64 p1, .slice AY ys.length cY, .bool (decide (0 < q1)), .int .i64 0] (0, 0) _ rfl (blk_put (blk_put (blk_put (blk_put HO9.out 0 _ rfl) 1 _ rfl) 2 _ rfl) 3 _ rfl) Try.underlying35 rfl (by kernel_rfl)) rfl ⟨_, rfl, ?_, ?_⟩
              · exact Kd.R_lower (Kd.R_set (Kd.R_set (Kd.R_set (Kd.R_set HY9.out HO9.out (by decide) 0 _) (blk_put HO9.out 0 _ rfl) (by decide) 1 _) (blk_put (blk_put HO9.out 0 _ rfl) 1 _ rfl) (by decide) 2 _) (blk_put (blk_put (blk_put HO9.out 0 _ rfl) 1 _ rfl) 2 _ rfl) (by decide) 3 _) (below_size HBW.out)
              · exact below_set (below_set (below_set (below_set (below_step HBW.out HRS9.out.2.2.1) (Nat.le_refl _)) (Nat.le_refl _)) (Nat.le_refl _)) (Nat.le_refl _)
          · have h := HE.out
            rw [if_neg (by rintro ⟨_, a⟩; exact hl a)] at h
            have hl0 : (0 : Int) < (l.length : Int) := by omega
            clear hl HE
            go_wp2_with (first
              | (clear tokA_; go_at_call 41; refine (codec_DecodeState.whole wb _ B F _ _ HRS.out).mono ?_; rintro e W8 ⟨rfl, rfl⟩)
              | (clear tokB_; go_at_call 42; refine (codec_DecodeState.left wb _ B F A _ c _ HRS.out).mono ?_; rintro e W8 ⟨rfl, rfl⟩))
            simp only [Option.some.injEq, Prod.mk.injEq] at h
            obtain ⟨rfl, rfl, rfl, rfl, rfl⟩ := h
            refine bodyPost_ret (results_ct rfl _ _ w.heap.size 35 #[.int .i64 0, .slice none 0 0, .bool false, .int .i64 0] (0, 0) _ rfl (blk_put (blk_put (blk_put (blk_put HO.out 0 _ rfl) 1 _ rfl) 2 _ rfl) 3 _ rfl) Try.underlying35 rfl (by kernel_rfl)) rfl ⟨_, rfl, Kd.R_nil _ _ _ _ _, ?_⟩
            exact below_set (below_set (below_set (below_set (below_step HBW.out HRS.out.2.2.1) (Nat.le_refl _)) (Nat.le_refl _)) (Nat.le_refl _)) (Nat.le_refl _)
      | succ n =>
        have c27b0 : decide (i < s1) = true := decide_eq_true (by omega)
        clear hi
        have h := HN.out
        simp only [codec_DecodeState.nums] at h
        rw [Option.bind_eq_some_iff] at h
        obtain ⟨⟨g1, g2⟩, hg, h⟩ := h
        by_cases hg0 : 0 ≤ g2
        case neg => exact absurd h (by simp [hg0])
        by_cases hg1 : g2 ≤ l.length
        case neg => exact absurd h (by simp [hg1])
        rw [if_pos hg0, if_pos hg1] at h
        obtain ⟨l5, hl5⟩ : ∃ l5, l5 = l.drop g2.toNat := ⟨_, rfl⟩
        obtain ⟨ys5, hys5⟩ : ∃ ys5, ys5 = ys ++ [g1] := ⟨_, rfl⟩
        simp only [← hl5, ← hys5] at h
        have HN5 := Aside0.mk h
        have HG := Aside0.mk hg
        have HG0 := Aside0.mk hg0
        have HG1 := Aside0.mk hg1
        have L5 := Aside0.mk hl5
        have Y5 := Aside0.mk hys5
        have HRSd := Aside0.mk HRS.out.drew
        have c1 : wr.cell? ⟨G, 1, none⟩ = some u := (blk_cell HST.out 1).trans rfl
        clear h hg hg0 hg1 hl5 hys5 HN
        have tokA_ : True := trivial
        have tokB_ : True := trivial
        go_wp2
        go_region_law (first
          | (refine codec_DecodeState.append_law (Kd.int .i64) (w0 := wb) (W := W6) wb.heap.size rfl (.tmp 46) (.tmp 49) 33 3 (.int .i64 0) 8 rfl Try.underlying33 info3 rfl (by decide) (by omega) u ys g1 [.int .i64 g1] (fun _ => True) (fun _ => False) rfl rfl rfl (fun _ hk => hk.elim) (fun _ _ => trivial) HY6.out HRS6.out.2.2.1 (below_size HRS6.out.2.2.1) (by have := HI.out; omega) ?_
             intro v7 W7 ho hb hg hat
             rw [← Y5.out] at ho
             have HRS7 := Aside0.mk (HRS6.out.grown hg (Kd.R_ne HY6.out HRS6.out.1 (by decide)) (Kd.R_ne HY6.out HRS6.out.2.1 (by decide)) hb)
             have HST7 := Aside0.mk (blk_grown HST6.out hg (Kd.R_ne HY6.out HST6.out (by decide)))
             have HY7 := Aside0.mk ho
             have c7 : W7.cell? ⟨G, 1, none⟩ = some u := (blk_cell HST7.out 1).trans rfl
             have f7 := blk_frozen HST7.out 1
             clear ho hb hg hat
             obtain ⟨A7, k7, e7⟩ := Kd.R_slice HY7.out
             subst e7)
          | (go_simp; go_at_call 40; refine (codec_DecodeState.gets k wb _ B F A c l fin g1 g2 HRSd.out HR.out HC.out HG.out HG0.out HG1.out).mono ?_; rintro e W6 ⟨A6, rfl, hS6, hr6, hc6, hk6⟩; rw [← L5.out] at hS6 hr6 hc6
             have HRS6 := Aside0.mk hS6
             have HR6 := Aside0.mk hr6
             have HC6 := Aside0.mk hc6
             have HY6 := Aside0.mk (Kd.R_mono (Kd.R_kept (Kd.R_types (Kd.R_types (Kd.R_drew HY.out) HRSd.out.1 (by decide)) HRSd.out.2.1 (by decide)) hk6 (fun k hk hS => hS.elim (fun e => hk.1.2 e) (fun e => hk.2 e))) (fun _ _ => trivial) : Kd.R (Kd.int .i64) 3 W6 wb.heap.size (fun _ => True) u ys)
             have HST6 := Aside0.mk (blk_kept (blk_drew HST.out) hk6 (fun e => e.elim HGB.out HGF.out))
             have c6 : W6.cell? ⟨G, 1, none⟩ = some u := (blk_cell HST6.out 1).trans rfl
             have c6a : ∀ o, (W6.alloc o).cell? ⟨G, 1, none⟩ = some u := fun o => (blk_cell (blk_alloc HST6.out o) 1).trans rfl
             clear hS6 hr6 hc6 hk6 tokA_))
        all_goals
          go_wp2
          go_roundg n
          case measure => omega
          case rel =>
            have hi := HI.out
            have hc := HC.out
            exact ⟨i + 1, A6, _, l5, ys5, _, _, (by first | rfl | (rw [show wrap64 (i + 1) = i + 1 by unfold wrap64; omega])), ⟨by omega, by omega, by omega, by rw [Y5.out, List.length_append]; simp; omega⟩, HN5, ⟨HRS7.out.far HGB.out HGF.out HGE.out _⟩, HR6, HC6, ⟨Kd.R_mono (Kd.R_far (p := ⟨G, 1, none⟩) (Kd.R_types HY7.out HST7.out (by decide)) (fun _ hk => hk.2) _) (fun _ _ => trivial)⟩, ⟨blk_put HST7.out 1 _ rfl⟩⟩
  · have hlt := Int.not_lt.mpr h
    clear h
    have h := H.out
    obtain ⟨x1, x2, x3⟩ := codec_DecodeState.fine3 HF.out
    rw [if_neg hlt, if_pos ⟨of_decide_eq_true x1, of_decide_eq_true x2, of_decide_eq_true x3, by omega, by omega⟩, Option.bind_eq_some_iff] at h
    obtain ⟨⟨xs, fine, l4⟩, hn, h⟩ := h
    have HRS4 := Aside0.mk (HRS3.out.below (below_alloc (Below.refl _ _) (.cells #[.int .i64 p1, .slice none 0 0, .bool (decide (0 < q1)), .int .i64 (wrap64 (q1 - 1))] 35) : Below W3.heap.size W3 (W3.alloc _)))
    have HST := Aside0.mk (heap_alloc_new W3 (.cells #[.int .i64 p1, .slice none 0 0, .bool (decide (0 < q1)), .int .i64 (wrap64 (q1 - 1))] 35))
    have HGB := Aside0.mk (Nat.ne_of_gt (blk_lt HRS3.out.1))
    have HGF := Aside0.mk (Nat.ne_of_gt (blk_lt HRS3.out.2.1))
    have HGW := Aside0.mk (Nat.ne_of_gt (blk_lt HO3.out))
    have HGE := Aside0.mk (below_size HRS3.out.2.2.1)
    obtain ⟨G, hG⟩ : ∃ G, G = W3.heap.size := ⟨_, rfl⟩
    rw [← hG] at HST HGB HGF HGW HGE ⊢
    obtain ⟨W4, hW4⟩ : ∃ W4, W4 = W3.alloc (.cells #[.int .i64 p1, .slice none 0 0, .bool (decide (0 < q1)), .int .i64 (wrap64 (q1 - 1))] 35) := ⟨_, rfl⟩
    rw [← hW4] at HRS4 HST ⊢
    have HN := Aside0.mk hn
    have HE := Aside0.mk h
    clear hn h H hG hW4 HRS3 HO3 sr0 sr1 sr2 sr3 sf0 sf1 sf2 sf3 hlt x1 x2 x3
    go_loopg [43] s1.toNat (fun kq v43 w' => ∃ (i : Int) (A : Option Addr) (c : Nat) (l ys : List Int) (fin : Bool) (u : Value), v43 = .int .i64 i ∧ Aside0 (0 ≤ i ∧ (s1 - i).toNat = kq ∧ s1 ≤ 128 ∧ ys.length ≤ 128 - kq) ∧ Aside0 (codec_DecodeState.nums k kq l fin ys = some (xs, fine, l4)) ∧ Aside0 (codec_DecodeState.RS wb w' B F (.slice A l.length c) fin) ∧ Aside0 (Kd.C (Kd.int .u8) wb A l.length l) ∧ Aside0 (l.length ≤ c) ∧
      Aside0 (Kd.R (Kd.int .i64) 3 w' wb.heap.size (fun _ => True) u ys) ∧ Aside0 (w'.heap[G]? = some (.cells #[.int .i64 p1, u, .bool (decide (0 < q1)), .int .i64 (wrap64 (q1 - 1))] 35 (0, 0))))
    case atStart => exact ⟨0, _, _, l3, [], true, _, rfl, ⟨by omega, by omega, by omega, Nat.zero_le _⟩, HN, HRS4, HR3, HC3, ⟨Kd.R_nil _ _ _ _ _⟩, HST⟩
    case round =>
      obtain ⟨i, A, c, l, ys, fin, u, rfl, HI, HN, HRS, HR, HC, HY, HST⟩ := hrel
      have hi := HI.out
      cases gk with
      | zero =>
        have c27b0 : decide (i < s1) = false := decide_eq_false (by omega)
        clear hi
        have h := HN.out
        simp only [codec_DecodeState.nums, Option.some.injEq, Prod.mk.injEq] at h
        obtain ⟨rfl, rfl, rfl⟩ := h
        have HO := Aside0.mk (blk_below HOB.out HRS.out.2.2.1)
        have sr0 : wr.cell? ⟨w.heap.size, 0, none⟩ = some (.int .i64 0) := (blk_cell HO.out 0).trans rfl
        have sr1 : wr.cell? ⟨w.heap.size, 1, none⟩ = some (.slice none 0 0) := (blk_cell HO.out 1).trans rfl
        have sr2 : wr.cell? ⟨w.heap.size, 2, none⟩ = some (.bool false) := (blk_cell HO.out 2).trans rfl
        have sr3 : wr.cell? ⟨w.heap.size, 3, none⟩ = some (.int .i64 0) := (blk_cell HO.out 3).trans rfl
        have sf0 := blk_frozen HO.out 0
        have sf1 := blk_frozen HO.out 1
        have sf2 := blk_frozen HO.out 2
        have sf3 := blk_frozen HO.out 3
        have st0 : wr.cell? ⟨G, 0, none⟩ = some (.int .i64 p1) := (blk_cell HST.out 0).trans rfl
        have st1 : wr.cell? ⟨G, 1, none⟩ = some u := (blk_cell HST.out 1).trans rfl
        have st2 : wr.cell? ⟨G, 2, none⟩ = some (.bool (decide (0 < q1))) := (blk_cell HST.out 2).trans rfl
        have st3 : wr.cell? ⟨G, 3, none⟩ = some (.int .i64 (wrap64 (q1 - 1))) := (blk_cell HST.out 3).trans rfl
        obtain ⟨AY, cY, eY⟩ := Kd.R_slice HY.out
        subst eY
        have tokA_ : True := trivial
        have tokB_ : True := trivial
        cases fin
        · have h := HE.out
          rw [if_neg (by rintro ⟨a, _⟩; exact Bool.noConfusion a)] at h
          go_wp2_with (clear tokA_; go_at_call 41; refine (codec_DecodeState.whole wb _ B F _ _ HRS.out).mono ?_; rintro e W8 ⟨rfl, rfl⟩)
          simp only [Option.some.injEq, Prod.mk.injEq] at h
          obtain ⟨rfl, rfl, rfl, rfl, rfl⟩ := h
          refine bodyPost_ret (results_ct rfl _ _ w.heap.size 35 #[.int .i64 0, .slice none 0 0, .bool false, .int .i64 0] (0, 0) _ rfl (blk_put (blk_put (blk_put (blk_put HO.out 0 _ rfl) 1 _ rfl) 2 _ rfl) 3 _ rfl) Try.underlying35 rfl (by kernel_rfl)) rfl ⟨_, rfl, Kd.R_nil _ _ _ _ _, ?_⟩
          exact below_set (below_set (below_set (below_set (below_step HBW.out HRS.out.2.2.1) (Nat.le_refl _)) (Nat.le_refl _)) (Nat.le_refl _)) (Nat.le_refl _)
        · by_cases hl : l.length = 0
          · have h := HE.out
            rw [if_pos ⟨rfl, hl⟩, Option.bind_eq_some_iff] at h
            obtain ⟨t, ht, h⟩ := h
            have HT := Aside0.mk ht
            have HE2 := Aside0.mk (Option.some.inj h)
            have hl0 : (l.length : Int) = 0 := by omega
            clear h ht hl HE
            have tokC_ : True := trivial
            go_wp2_with (first
              | (clear tokA_; go_at_call 41; refine (codec_DecodeState.whole wb _ B F _ _ HRS.out).mono ?_; rintro e W8 ⟨rfl, rfl⟩)
              | (clear tokB_; go_at_call 42; refine (codec_DecodeState.left wb _ B F A _ c _ HRS.out).mono ?_; rintro e W8 ⟨rfl, rfl⟩)
              | (clear tokC_; go_at_call 31; refine (objs_May.calls k p1 AY cY ys (decide (0 < q1)) (wrap64 (q1 - 1)) t wr (Kd.R_reads' HY.out).2.2 (Kd.R_reads' HY.out).2.1 HT.out).mono ?_; rintro e W9 ⟨rfl, hb9⟩
                 have HRS9 := Aside0.mk (HRS.out.below hb9)
                 have HO9 := Aside0.mk (blk_below HO.out hb9)
                 have HST9 := Aside0.mk (blk_below HST.out hb9)
                 have HY9 := Aside0.mk (Kd.R_below HY.out hb9)
                 clear hb9 sr0 sr1 sr2 sr3 sf0 sf1 sf2 sf3 st0 st1 st2 st3
                 have sr0 : W9.cell? ⟨w.heap.size, 0, none⟩ = some (.int .i64 0) := (blk_cell HO9.out 0).trans rfl
                 have sr1 : W9.cell? ⟨w.heap.size, 1, none⟩ = some (.slice none 0 0) := (blk_cell HO9.out 1).trans rfl
                 have sr2 : W9.cell? ⟨w.heap.size, 2, none⟩ = some (.bool false) := (blk_cell HO9.out 2).trans rfl
                 have sr3 : W9.cell? ⟨w.heap.size, 3, none⟩ = some (.int .i64 0) := (blk_cell HO9.out 3).trans rfl
                 have sf0 := blk_frozen HO9.out 0
                 have sf1 := blk_frozen HO9.out 1
                 have sf2 := blk_frozen HO9.out 2
                 have sf3 := blk_frozen HO9.out 3
                 have st0 : W9.cell? ⟨G, 0, none⟩ = some (.int .i64 p1) := (blk_cell HST9.out 0).trans rfl
                 have st1 : W9.cell? ⟨G, 1, none⟩ = some (.slice AY ys.length cY) := (blk_cell HST9.out 1).trans rfl
                 have st2 : W9.cell? ⟨G, 2, none⟩ = some (.bool (decide (0 < q1))) := (blk_cell HST9.out 2).trans rfl
                 have st3 : W9.cell? ⟨G, 3, none⟩ = some (.int .i64 (wrap64 (q1 - 1))) := (blk_cell HST9.out 3).trans rfl
                 cases t))
            · have h := HE2.out
              rw [if_neg (by decide)] at h
              simp only [Prod.mk.injEq] at h
              obtain ⟨rfl, rfl, rfl, rfl, rfl⟩ := h
              refine bodyPost_ret (results_ct rfl _ _ w.heap.size 35 #[.int .i64 0, .slice none 0 0, .bool false, .int .i64 0] (0, 0) _ rfl (blk_put (blk_put (blk_put (blk_put HO9.out 0 _ rfl) 1 _ rfl) 2 _ rfl) 3 _ rfl) Try.underlying35 rfl (by kernel_rfl)) rfl ⟨_, rfl, Kd.R_nil _ _ _ _ _, ?_⟩
              exact below_set (below_set (below_set (below_set (below_step HBW.out HRS9.out.2.2.1) (Nat.le_refl _)) (Nat.le_refl _)) (Nat.le_refl _)) (Nat.le_refl _)
            · have h := HE2.out
              rw [if_pos trivial] at h
              simp only [Prod.mk.injEq] at h
              obtain ⟨rfl, rfl, rfl, rfl, rfl⟩ := h
              refine bodyPost_ret (results_ct rfl _ _ w.heap.size 35 #[.int .i64 p1, .slice AY ys.length cY, .bool (decide (0 < q1)), .int .i64 (wrap64 (q1 - 1))] (0, 0) _ rfl (blk_put (blk_put (blk_put (blk_put HO9.out 0 _ rfl) 1 _ rfl) 2 _ rfl) 3 _ rfl) Try.underlying35 rfl (by kernel_rfl)) rfl ⟨_, rfl, ?_, ?_⟩
              · exact Kd.R_lower (Kd.R_set (Kd.R_set (Kd.R_set (Kd.R_set HY9.out HO9.out (by decide) 0 _) (blk_put HO9.out 0 _ rfl) (by decide) 1 _) (blk_put (blk_put HO9.out 0 _ rfl) 1 _ rfl) (by decide) 2 _) (blk_put (blk_put (blk_put HO9.out 0 _ rfl) 1 _ rfl) 2 _ rfl) (by decide) 3 _) (below_size HBW.out)
              · exact below_set (below_set (below_set (below_set (below_step HBW.out HRS9.out.2.2.1) (Nat.le_refl _)) (Nat.le_refl _)) (Nat.le_refl _)) (Nat.le_refl _)
          · have h := HE.out
            rw [if_neg (by rintro ⟨_, a⟩; exact hl a)] at h
            have hl0 : (0 : Int) < (l.length : Int) := by omega
            clear hl HE
            go_wp2_with (first
              | (clear tokA_; go_at_call 41; refine (codec_DecodeState.whole wb _ B F _ _ HRS.out).mono ?_; rintro e W8 ⟨rfl, rfl⟩)
              | (clear tokB_; go_at_call 42; refine (codec_DecodeState.left wb _ B F A _ c _ HRS.out).mono ?_; rintro e W8 ⟨rfl, rfl⟩))
            simp only [Option.some.injEq, Prod.mk.injEq] at h
            obtain ⟨rfl, rfl, rfl, rfl, rfl⟩ := h
            refine bodyPost_ret (results_ct rfl _ _ w.heap.size 35 #[.int .i64 0, .slice none 0 0, .bool false, .int .i64 0] (0, 0) _ rfl (blk_put (blk_put (blk_put (blk_put HO.out 0 _ rfl) 1 _ rfl) 2 _ rfl) 3 _ rfl) Try.underlying35 rfl (by kernel_rfl)) rfl ⟨_, rfl, Kd.R_nil _ _ _ _ _, ?_⟩
            exact below_set (below_set (below_set (below_set (below_step HBW.out HRS.out.2.2.1) (Nat.le_refl _)) (Nat.le_refl _)) (Nat.le_refl _)) (Nat.le_refl _)
      | succ n =>
        have c27b0 : decide (i < s1) = true := decide_eq_true (by omega)
        clear hi
        have h := HN.out
        simp only [codec_DecodeState.nums] at h
        rw [Option.bind_eq_some_iff] at h
        obtain ⟨⟨g1, g2⟩, hg, h⟩ := h
        by_cases hg0 : 0 ≤ g2
        case neg => exact absurd h (by simp [hg0])
        by_cases hg1 : g2 ≤ l.length
        case neg => exact absurd h (by simp [hg1])
        rw [if_pos hg0, if_pos hg1] at h
        obtain ⟨l5, hl5⟩ : ∃ l5, l5 = l.drop g2.toNat := ⟨_, rfl⟩
        obtain ⟨ys5, hys5⟩ : ∃ ys5, ys5 = ys ++ [g1] := ⟨_, rfl⟩
        simp only [← hl5, ← hys5] at h
        have HN5 := Aside0.mk h
        have HG := Aside0.mk hg
        have HG0 := Aside0.mk hg0
        have HG1 := Aside0.mk hg1
        have L5 := Aside0.mk hl5
        have Y5 := Aside0.mk hys5
        have HRSd := Aside0.mk HRS.out.drew
        have c1 : wr.cell? ⟨G, 1, none⟩ = some u := (blk_cell HST.out 1).trans rfl
        clear h hg hg0 hg1 hl5 hys5 HN
        have tokA_ : True := trivial
        have tokB_ : True := trivial
        go_wp2
        go_region_law (first
          | (refine codec_DecodeState.append_law (Kd.int .i64) (w0 := wb) (W := W6) wb.heap.size rfl (.tmp 46) (.tmp 49) 33 3 (.int .i64 0) 8 rfl Try.underlying33 info3 rfl (by decide) (by omega) u ys g1 [.int .i64 g1] (fun _ => True) (fun _ => False) rfl rfl rfl (fun _ hk => hk.elim) (fun _ _ => trivial) HY6.out HRS6.out.2.2.1 (below_size HRS6.out.2.2.1) (by have := HI.out; omega) ?_
             intro v7 W7 ho hb hg hat
             rw [← Y5.out] at ho
             have HRS7 := Aside0.mk (HRS6.out.grown hg (Kd.R_ne HY6.out HRS6.out.1 (by decide)) (Kd.R_ne HY6.out HRS6.out.2.1 (by decide)) hb)
             have HST7 := Aside0.mk (blk_grown HST6.out hg (Kd.R_ne HY6.out HST6.out (by decide)))
             have HY7 := Aside0.mk ho
             have c7 : W7.cell? ⟨G, 1, none⟩ = some u := (blk_cell HST7.out 1).trans rfl
             have f7 := blk_frozen HST7.out 1
             clear ho hb hg hat
             obtain ⟨A7, k7, e7⟩ := Kd.R_slice HY7.out
             subst e7)
          | (go_simp; go_at_call 40; refine (codec_DecodeState.gets k wb _ B F A c l fin g1 g2 HRSd.out HR.out HC.out HG.out HG0.out HG1.out).mono ?_; rintro e W6 ⟨A6, rfl, hS6, hr6, hc6, hk6⟩; rw [← L5.out] at hS6 hr6 hc6
             have HRS6 := Aside0.mk hS6
             have HR6 := Aside0.mk hr6
             have HC6 := Aside0.mk hc6
             have HY6 := Aside0.mk (Kd.R_mono (Kd.R_kept (Kd.R_types (Kd.R_types (Kd.R_drew HY.out) HRSd.out.1 (by decide)) HRSd.out.2.1 (by decide)) hk6 (fun k hk hS => hS.elim (fun e => hk.1.2 e) (fun e => hk.2 e))) (fun _ _ => trivial) : Kd.R (Kd.int .i64) 3 W6 wb.heap.size (fun _ => True) u ys)
             have HST6 := Aside0.mk (blk_kept (blk_drew HST.out) hk6 (fun e => e.elim HGB.out HGF.out))
             have c6 : W6.cell? ⟨G, 1, none⟩ = some u := (blk_cell HST6.out 1).trans rfl
             have c6a : ∀ o, (W6.alloc o).cell? ⟨G, 1, none⟩ = some u := fun o => (blk_cell (blk_alloc HST6.out o) 1).trans rfl
             clear hS6 hr6 hc6 hk6 tokA_))
        all_goals
          go_wp2
          go_roundg n
          case measure => omega
          case rel =>
            have hi := HI.out
            have hc := HC.out
            exact ⟨i + 1, A6, _, l5, ys5, _, _, (by first | rfl | (rw [show wrap64 (i + 1) = i + 1 by unfold wrap64; omega])), ⟨by omega, by omega, by omega, by rw [Y5.out, List.length_append]; simp; omega⟩, HN5, ⟨HRS7.out.far HGB.out HGF.out HGE.out _⟩, HR6, HC6, ⟨Kd.R_mono (Kd.R_far (p := ⟨G, 1, none⟩) (Kd.R_types HY7.out HST7.out (by decide)) (fun _ hk => hk.2) _) (fun _ _ => trivial)⟩, ⟨blk_put HST7.out 1 _ rfl⟩⟩
  · have h := H.out
    rw [if_neg (by rintro ⟨a, b, c, d, e⟩; omega)] at h
    simp only [Option.some.injEq, Prod.mk.injEq] at h
    obtain ⟨rfl, rfl, rfl, rfl, rfl⟩ := h
    refine bodyPost_ret (results_ct rfl _ _ w.heap.size 35 #[.int .i64 0, .slice none 0 0, .bool false, .int .i64 0] (0, 0) _ rfl (blk_put (blk_put (blk_put (blk_put HO3.out 0 _ rfl) 1 _ rfl) 2 _ rfl) 3 _ rfl) Try.underlying35 rfl (by kernel_rfl)) rfl ⟨_, rfl, Kd.R_nil _ _ _ _ _, ?_⟩
    exact below_set (below_set (below_set (below_set (below_step HBW.out HRS3.out.2.2.1) (Nat.le_refl _)) (Nat.le_refl _)) (Nat.le_refl _)) (Nat.le_refl _)

end Go.Proofs.Yteojopdcmdipaaa.QCodecStates
