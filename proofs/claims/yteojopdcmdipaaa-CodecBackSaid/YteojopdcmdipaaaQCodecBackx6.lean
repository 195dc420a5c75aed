/- What this text proves: the functions that a law reaches, as functions on numbers and lists, and that Go's come to their answers; no condition. Written by the kit's print program, turned (wip/tools/patch_print.py). -/
import Derived.Test.YteojopdcmdipaaaQCodecBackx0
import Derived.Test.YteojopdcmdipaaaQCodecBackx2
import Derived.Test.YteojopdcmdipaaaQCodecBackx5
namespace Go.Proofs.Yteojopdcmdipaaa.QCodecBack
open Go.RowKit Go.Proofs.YteojopdcmdipaaaW.PrintWords Go.Proofs.YteojopdcmdipaaaW.PrintLast Go.Proofs.YteojopdcmdipaaaW.PrintMore
attribute [local go_sem] max2_int min2_int max_two min_two max_three min_three max_four min_four   -- for this text's walks alone
set_option linter.unusedVariables false
set_option linter.unusedSimpArgs false

/-! ### num_GetSigned: function 28 -/
def num_GetSigned.f (k : Nat) (l0 : List Int) : Option (Int × Int) := (num_read.f k l0).bind fun bt168 => (if bt168.2 = 0 then (some (0, 0)) else ((num_Zag.f bt168.1).bind fun t170 => (some (t170, bt168.2))))
theorem num_GetSigned.mono : ∀ a0 k, LeO (num_GetSigned.f k a0) (num_GetSigned.f (k + 1) a0) := by
  intro a0 k
  unfold num_GetSigned.f
  repeat' first
      | (with_reducible exact num_read.mono _ _)
      | (with_reducible exact LeO.refl _)
      | (with_reducible exact LeO.none _)
      | (with_reducible refine LeO.ite ?_ ?_)
      | (with_reducible refine LeO.bind ?_ (fun _ => ?_))
      | exact num_read.mono _ _
      | exact LeO.none _
      | refine LeO.ite ?_ ?_
      | refine LeO.bind ?_ (fun _ => ?_)
set_option maxHeartbeats 8000000 in
set_option maxRecDepth 100000 in
theorem num_GetSigned.calls (k : Nat) (A0 : Option Addr) (c0 : Nat) (l0 : List Int) (r1 : Int) (r2 : Int) (w : World) (hr0 : Kd.C (Kd.int .u8) w A0 l0.length l0) (hc0 : l0.length ≤ c0) (h : num_GetSigned.f k l0 = some (r1, r2)) :
    Calls Try.prog 28 #[.slice A0 l0.length c0] w fun e w' => e = .returned (.tuple #[.int .i64 r1, .int .i64 r2]) ∧ Below w.heap.size w w' := by
  have HR0 := Aside0.mk hr0
  have HC0 := Aside0.mk hc0
  clear hr0 hc0
  have HB := Aside0.mk (Below.refl w.heap.size w)
  have H : ((num_read.f k l0).bind fun bt168 => (if bt168.2 = 0 then (some (0, 0)) else ((num_Zag.f bt168.1).bind fun t170 => (some (t170, bt168.2))))) = some (r1, r2) := h
  clear h
  replace H := Option.bind_eq_some_iff.mp H
  obtain ⟨⟨t168, t169⟩, A20, H⟩ := H
  replace H : (if t169 = 0 then (some (0, 0)) else ((num_Zag.f t168).bind fun t170 => (some (t170, t169)))) = some (r1, r2) := H
  have A2 := Aside0.mk A20
  clear A20
  by_cases c3 : t169 = 0
  · rw [if_pos c3] at H
    have c3b0 : (t169 == 0) = true := beq_iff_eq.mpr c3
    have c3b1 : (t169 != 0) = false := bne_eq_false_iff_eq.mpr c3
    clear c3
    simp only [Option.some.injEq, Prod.mk.injEq] at H
    obtain ⟨rfl, rfl⟩ := H
    go_enter Try.func28, Try.ntmps28
    go_wp2_with (first | ((with_reducible refine gate_callee (f := 43) rfl ?_); refine goesL_ (some 8) rfl rfl Try.func43 (by kernel_rfl) rfl #[.slice A0 l0.length c0] rfl (by (try simp only [List.map_toArray, List.map_cons, List.map_nil]); first | done | rfl | (simp only [List.length_drop, List.length_take]; rfl)) ?_; (with_reducible refine (num_read.calls k _ _ l0 t168 t169 _ ?side1 ?side2 A2.out).mono ?_); (case side1 => repeat (first | exact HR0.out | (with_reducible refine Kd.C_alloc ?_ _) | (with_reducible refine Kd.C_drewN ?_ _) | (with_reducible refine Kd.C_drew ?_))); (case side2 => exact HC0.out); rintro e w4 ⟨rfl, hb⟩; refine ⟨_, rfl, ?_⟩; have n0_ := Aside0.mk (below_step (by repeat (first | (with_reducible first | exact HB.out | apply below_alloc | apply pw_below_drewN | apply below_drew1) | exact HB.out)) hb); clear HB; have HB := n0_; clear n0_; (try clear hb); (try clear hb2); (try clear hk); (try clear hi)))
    go_ret2
    exact ⟨by first | rfl | (simp [errW_none, errW_some] <;> rfl) | (simp [*, errW_none, errW_some] <;> rfl), by repeat (first | (with_reducible first | exact HB.out | apply below_alloc | apply pw_below_drewN | apply below_drew1) | exact HB.out)⟩
  · rw [if_neg c3] at H
    have c3b0 : (t169 == 0) = false := beq_eq_false_iff_ne.mpr c3
    have c3b1 : (t169 != 0) = true := bne_iff_ne.mpr c3
    replace H := Option.bind_eq_some_iff.mp H
    obtain ⟨t170, A50, H⟩ := H
    replace H : (some (t170, t169)) = some (r1, r2) := H
    have A5 := Aside0.mk A50
    clear A50
    simp only [Option.some.injEq, Prod.mk.injEq] at H
    obtain ⟨rfl, rfl⟩ := H
    go_enter Try.func28, Try.ntmps28
    have tok1_ : True := trivial; have tok2_ : True := trivial
    go_wp2_with (first | ((with_reducible refine gate_callee (f := 43) rfl ?_); clear tok1_; refine goesL_ (some 8) rfl rfl Try.func43 (by kernel_rfl) rfl #[.slice A0 l0.length c0] rfl (by (try simp only [List.map_toArray, List.map_cons, List.map_nil]); first | done | rfl | (simp only [List.length_drop, List.length_take]; rfl)) ?_; (with_reducible refine (num_read.calls k _ _ l0 t168 t169 _ ?side1 ?side2 A2.out).mono ?_); (case side1 => repeat (first | exact HR0.out | (with_reducible refine Kd.C_alloc ?_ _) | (with_reducible refine Kd.C_drewN ?_ _) | (with_reducible refine Kd.C_drew ?_))); (case side2 => exact HC0.out); rintro e w6 ⟨rfl, hb⟩; refine ⟨_, rfl, ?_⟩; have n0_ := Aside0.mk (below_step (by repeat (first | (with_reducible first | exact HB.out | apply below_alloc | apply pw_below_drewN | apply below_drew1) | exact HB.out)) hb); clear HB; have HB := n0_; clear n0_; (try clear hb); (try clear hb2); (try clear hk); (try clear hi)) | ((with_reducible refine gate_callee (f := 44) rfl ?_); clear tok2_; refine goesL_ (some 14) rfl rfl Try.func44 (by kernel_rfl) rfl #[.int .u64 t168] rfl (by (try simp only [List.map_toArray, List.map_cons, List.map_nil]); first | done | rfl | (simp only [List.length_drop, List.length_take]; rfl)) ?_; (with_reducible refine (num_Zag.calls t168 t170 _ A5.out).mono ?_); rintro e w' ⟨rfl, ⟨nd, rfl⟩⟩; refine ⟨_, rfl, ?_⟩))
    go_ret2
    exact ⟨by first | rfl | (simp [errW_none, errW_some] <;> rfl) | (simp [*, errW_none, errW_some] <;> rfl), by repeat (first | (with_reducible first | exact HB.out | apply below_alloc | apply pw_below_drewN | apply below_drew1) | exact HB.out)⟩

/-! ### codec_GetOp: function 12 -/
/-- What a reader holds: the bytes that are left, and whether all numbers were there; both in variables of the call's own. -/
def codec_GetOp.RS (w W : World) (B F : Nat) (v : Value) (fine : Bool) : Prop :=
  W.heap[B]? = some (.cells #[v] 25 (0, 0)) ∧ W.heap[F]? = some (.cells #[.bool fine] 4 (0, 0)) ∧ Below w.heap.size w W ∧ w.heap.size ≤ B ∧ w.heap.size ≤ F ∧ B ≠ F
theorem codec_GetOp.RS.below {w W W1 : World} {B F : Nat} {v : Value} {fine : Bool} (h : codec_GetOp.RS w W B F v fine) (hb : Below W.heap.size W W1) : codec_GetOp.RS w W1 B F v fine :=
  ⟨blk_below h.1 hb, blk_below h.2.1 hb, below_step h.2.2.1 hb, h.2.2.2.1, h.2.2.2.2.1, h.2.2.2.2.2⟩
theorem codec_GetOp.RS.kept {w W W1 : World} {B F : Nat} {v : Value} {fine : Bool} (h : codec_GetOp.RS w W B F v fine) {S : Nat → Prop} (hk : Kept W W1 S) (hB : ¬ S B) (hF : ¬ S F) (hb : Below w.heap.size w W1) : codec_GetOp.RS w W1 B F v fine :=
  ⟨blk_kept h.1 hk hB, blk_kept h.2.1 hk hF, hb, h.2.2.2.1, h.2.2.2.2.1, h.2.2.2.2.2⟩
/-- Two stores: into the variable of the flag, then into that of the bytes. -/
theorem codec_GetOp.RS.two {w W : World} {B F : Nat} {v v2 : Value} {fine fine2 : Bool} (h : codec_GetOp.RS w W B F v fine) : codec_GetOp.RS w ((W.setCell ⟨F, 0, none⟩ (.bool fine2)).setCell ⟨B, 0, none⟩ v2) B F v2 fine2 := by
  obtain ⟨hb, hf, hbel, hB, hF, hne⟩ := h
  refine ⟨one_setCell (blk_far hb (p := ⟨F, 0, none⟩) hne _), blk_far (one_setCell hf) (p := ⟨B, 0, none⟩) (Ne.symm hne) _, below_set (below_set hbel hF) hB, hB, hF, hne⟩
theorem codec_GetOp.RS.two_kept {W : World} {B F : Nat} (u v : Value) : Kept W ((W.setCell ⟨F, 0, none⟩ u).setCell ⟨B, 0, none⟩ v) (fun k => k = B ∨ k = F) :=
  ⟨by simp, fun i _ hn => (Below.heap_setCell _ _ _ i (fun e => hn (.inl e))).trans (Below.heap_setCell _ _ _ i (fun e => hn (.inr e)))⟩
set_option maxHeartbeats 8000000 in
set_option maxRecDepth 100000 in
/-- get(ferryman/num.Get). -/
theorem codec_GetOp.get (k : Nat) (w W : World) (B F : Nat) (A : Option Addr) (c : Nat) (l : List Int) (fine : Bool) (r1 r2 : Int) (hS : codec_GetOp.RS w W B F (.slice A l.length c) fine) (hr : Kd.C (Kd.int .u8) w A l.length l) (hc : l.length ≤ c)
    (h : num_Get.f k l = some (r1, r2)) (h0 : 0 ≤ r2) (h1 : r2 ≤ l.length) :
    Calls Try.prog 40 #[.func (.func 27) #[] #[], .pointer (some ⟨B, 0, none⟩), .pointer (some ⟨F, 0, none⟩)] W fun e W' => ∃ A', e = .returned (.int .i64 r1) ∧ codec_GetOp.RS w W' B F (.slice A' (l.drop r2.toNat).length (c - r2.toNat)) (fine && decide (r2 > 0)) ∧
      Kd.C (Kd.int .u8) w A' (l.drop r2.toNat).length (l.drop r2.toNat) ∧ (l.drop r2.toNat).length ≤ c - r2.toNat ∧ Kept W W' (fun k => k = B ∨ k = F) := by
  have hinf : (Try.prog.info? 5).map (fun i => (i.zero, i.size, i.bytes)) = some (some (.int .u8 0), 1, 1) := by kernel_rfl
  obtain ⟨i0, hi0, _, hz1, _⟩ := info_parts hinf
  obtain ⟨A', hrun, hread, hlen⟩ := print_cut_int (P := Try.prog) (k := .u8) 25 5 Try.underlying25 hi0 hz1 A c l r2 h0 h1 hc
  clear hinf hi0 hz1
  have HREAD := Aside0.mk (Kd.C_of_reads (enc := Value.int .u8) (d := (0 : Int)) (h1 := fun _ => rfl) (hread w (Kd.reads_of_C (enc := Value.int .u8) (d := (0 : Int)) (h1 := fun _ => rfl) hr)))
  have HLEN := Aside0.mk hlen
  have HS := Aside0.mk hS
  have HR := Aside0.mk (Kd.C_below hr hS.2.2.1)
  have HC := Aside0.mk hc
  have H := Aside0.mk h
  have cB := cell_of_one hS.1
  have cF := cell_of_one hS.2.1
  have HN := Aside0.mk hS.2.2.2.2.2
  clear hread hlen hS hr hc h
  by_cases hp : r2 > 0
  all_goals
    cases fine
    all_goals
      go_enter Try.func40, Try.ntmps40
      go_wp2_with (first
        | (go_at_call 27; refine (num_Get.calls k A c l r1 r2 _ HR.out HC.out H.out).mono ?_; rintro e W1 ⟨rfl, hb1⟩; have HS1 := Aside0.mk (HS.out.below hb1); have HB1 := Aside0.mk hb1; clear hb1; have dB := cell_of_one HS1.out.1; have dF := cell_of_one HS1.out.2.1; have fB := free_of_one HS1.out.1; have fF := free_of_one HS1.out.2.1; have dB2 := fun u => cell_of_one (blk_far HS1.out.1 (p := ⟨F, 0, none⟩) HN.out u); have fB2 := fun u => free_of_one (blk_far HS1.out.1 (p := ⟨F, 0, none⟩) HN.out u)))
      go_ret
      refine ⟨A', rfl, ?_, HREAD.out, HLEN.out, (Kept.of_below HB1.out _).then_ (codec_GetOp.RS.two_kept _ _) (fun _ h => .inl h)⟩
      rw [List.length_drop]
      first | exact HS1.out.two | (rw [Bool.true_and, decide_eq_true hp]; exact HS1.out.two) | (rw [Bool.true_and, decide_eq_false hp]; exact HS1.out.two)
set_option maxHeartbeats 8000000 in
set_option maxRecDepth 100000 in
/-- get(ferryman/num.GetSigned). -/
theorem codec_GetOp.gets (k : Nat) (w W : World) (B F : Nat) (A : Option Addr) (c : Nat) (l : List Int) (fine : Bool) (r1 r2 : Int) (hS : codec_GetOp.RS w W B F (.slice A l.length c) fine) (hr : Kd.C (Kd.int .u8) w A l.length l) (hc : l.length ≤ c)
    (h : num_GetSigned.f k l = some (r1, r2)) (h0 : 0 ≤ r2) (h1 : r2 ≤ l.length) :
    Calls Try.prog 40 #[.func (.func 28) #[] #[], .pointer (some ⟨B, 0, none⟩), .pointer (some ⟨F, 0, none⟩)] W fun e W' => ∃ A', e = .returned (.int .i64 r1) ∧ codec_GetOp.RS w W' B F (.slice A' (l.drop r2.toNat).length (c - r2.toNat)) (fine && decide (r2 > 0)) ∧
      Kd.C (Kd.int .u8) w A' (l.drop r2.toNat).length (l.drop r2.toNat) ∧ (l.drop r2.toNat).length ≤ c - r2.toNat ∧ Kept W W' (fun k => k = B ∨ k = F) := by
  have hinf : (Try.prog.info? 5).map (fun i => (i.zero, i.size, i.bytes)) = some (some (.int .u8 0), 1, 1) := by kernel_rfl
  obtain ⟨i0, hi0, _, hz1, _⟩ := info_parts hinf
  obtain ⟨A', hrun, hread, hlen⟩ := print_cut_int (P := Try.prog) (k := .u8) 25 5 Try.underlying25 hi0 hz1 A c l r2 h0 h1 hc
  clear hinf hi0 hz1
  have HREAD := Aside0.mk (Kd.C_of_reads (enc := Value.int .u8) (d := (0 : Int)) (h1 := fun _ => rfl) (hread w (Kd.reads_of_C (enc := Value.int .u8) (d := (0 : Int)) (h1 := fun _ => rfl) hr)))
  have HLEN := Aside0.mk hlen
  have HS := Aside0.mk hS
  have HR := Aside0.mk (Kd.C_below hr hS.2.2.1)
  have HC := Aside0.mk hc
  have H := Aside0.mk h
  have cB := cell_of_one hS.1
  have cF := cell_of_one hS.2.1
  have HN := Aside0.mk hS.2.2.2.2.2
  clear hread hlen hS hr hc h
  by_cases hp : r2 > 0
  all_goals
    cases fine
    all_goals
      go_enter Try.func40, Try.ntmps40
      go_wp2_with (first
        | (go_at_call 28; refine (num_GetSigned.calls k A c l r1 r2 _ HR.out HC.out H.out).mono ?_; rintro e W1 ⟨rfl, hb1⟩; have HS1 := Aside0.mk (HS.out.below hb1); have HB1 := Aside0.mk hb1; clear hb1; have dB := cell_of_one HS1.out.1; have dF := cell_of_one HS1.out.2.1; have fB := free_of_one HS1.out.1; have fF := free_of_one HS1.out.2.1; have dB2 := fun u => cell_of_one (blk_far HS1.out.1 (p := ⟨F, 0, none⟩) HN.out u); have fB2 := fun u => free_of_one (blk_far HS1.out.1 (p := ⟨F, 0, none⟩) HN.out u)))
      go_ret
      refine ⟨A', rfl, ?_, HREAD.out, HLEN.out, (Kept.of_below HB1.out _).then_ (codec_GetOp.RS.two_kept _ _) (fun _ h => .inl h)⟩
      rw [List.length_drop]
      first | exact HS1.out.two | (rw [Bool.true_and, decide_eq_true hp]; exact HS1.out.two) | (rw [Bool.true_and, decide_eq_false hp]; exact HS1.out.two)
set_option maxHeartbeats 8000000 in
set_option maxRecDepth 100000 in
theorem codec_GetOp.reader (w : World) (A : Option Addr) (n c : Nat) :
    Calls Try.prog 26 #[.slice A n c] w fun e W => e = .returned (.tuple #[.func (.func 40) #[] #[.pointer (some ⟨w.heap.size, 0, none⟩), .pointer (some ⟨w.heap.size + 1, 0, none⟩)], .func (.func 41) #[] #[.pointer (some ⟨w.heap.size + 1, 0, none⟩)], .func (.func 42) #[] #[.pointer (some ⟨w.heap.size, 0, none⟩)]]) ∧ codec_GetOp.RS w W w.heap.size (w.heap.size + 1) (.slice A n c) true := by
  have hmf : ∀ fn first cap w, (Instr.makeFunc fn first cap).run Try.prog w = .ok (.func fn first cap) w := fun _ _ _ _ => rfl
  go_enter Try.func26, Try.ntmps26
  go_wp2
  go_ret3
  refine ⟨rfl, blk_alloc (heap_alloc_new _ _) _, ?_, below_alloc (below_alloc (Below.refl _ _) _) _, by omega, by omega, by omega⟩
  have := heap_alloc_new (w.alloc (.cells #[.slice A n c] 25)) (.cells #[.bool true] 4)
  rw [World.size_alloc] at this
  exact this
theorem codec_GetOp.whole (w W : World) (B F : Nat) (v : Value) (fine : Bool) (hS : codec_GetOp.RS w W B F v fine) :
    Calls Try.prog 41 #[.pointer (some ⟨F, 0, none⟩)] W fun e W' => e = .returned (.bool fine) ∧ W = W' := by
  have cF := cell_of_one hS.2.1
  go_enter Try.func41, Try.ntmps41
  go_wp2
  go_ret
  exact ⟨rfl, rfl⟩
theorem codec_GetOp.left (w W : World) (B F : Nat) (A : Option Addr) (n c : Nat) (fine : Bool) (hS : codec_GetOp.RS w W B F (.slice A n c) fine) :
    Calls Try.prog 42 #[.pointer (some ⟨B, 0, none⟩)] W fun e W' => e = .returned (.int .i64 n) ∧ W = W' := by
  have cB := cell_of_one hS.1
  go_enter Try.func42, Try.ntmps42
  go_wp2
  go_ret
  exact ⟨rfl, rfl⟩
theorem codec_GetOp.fine3 {a b c : Bool} (h : true = (((true && a) && b) && c)) : a = true ∧ b = true ∧ c = true := by
  cases a <;> cases b <;> cases c <;> simp_all
theorem codec_GetOp.RS.drew {w W : World} {B F : Nat} {v : Value} {fine : Bool} (h : codec_GetOp.RS w W B F v fine) : codec_GetOp.RS w W.drew B F v fine :=
  ⟨blk_drew h.1, blk_drew h.2.1, below_drew1 h.2.2.1, h.2.2.2.1, h.2.2.2.2.1, h.2.2.2.2.2⟩
def codec_GetOp.f (k : Nat) (l0 : List Int) : Option (Int × Int × Int × Int) :=
  (num_Get.f k l0).bind fun p => (if 0 ≤ p.2 then (if p.2 ≤ l0.length then
  ((num_GetSigned.f k (l0.drop p.2.toNat)).bind fun q => (if 0 ≤ q.2 then (if q.2 ≤ (l0.drop p.2.toNat).length then
  ((num_GetSigned.f k ((l0.drop p.2.toNat).drop q.2.toNat)).bind fun s => (if 0 ≤ s.2 then (if s.2 ≤ ((l0.drop p.2.toNat).drop q.2.toNat).length then
  ((objs_Fits.f p.1 q.1 s.1).bind fun t => some (if p.2 > 0 ∧ q.2 > 0 ∧ s.2 > 0 ∧ t = true then (p.1, q.1, s.1, p.2 + q.2 + s.2) else (0, 0, 0, 0)))
  else none) else none)) else none) else none)) else none) else none)
theorem codec_GetOp.mono : ∀ a0 k, LeO (codec_GetOp.f k a0) (codec_GetOp.f (k + 1) a0) := by
  intro a0 k
  unfold codec_GetOp.f
  repeat' first
      | (with_reducible exact num_Get.mono _ _)
      | (with_reducible exact num_GetSigned.mono _ _)
      | (with_reducible exact LeO.refl _)
      | (with_reducible refine LeO.ite ?_ ?_)
      | (with_reducible refine LeO.bind ?_ (fun _ => ?_))
set_option maxHeartbeats 8000000 in
set_option maxRecDepth 100000 in
theorem codec_GetOp.calls (k : Nat) (A0 : Option Addr) (c0 : Nat) (l0 : List Int) (r1 r2 r3 r4 : Int) (w : World) (hr0 : Kd.C (Kd.int .u8) w A0 l0.length l0) (hc0 : l0.length ≤ c0) (h : codec_GetOp.f k l0 = some (r1, r2, r3, r4)) :
    Calls Try.prog 12 #[.slice A0 l0.length c0] w fun e w' => e = .returned (.tuple #[.agg #[.int .i64 r1, .int .i64 r2, .int .i64 r3], .int .i64 r4]) ∧ Below w.heap.size w w' := by
  unfold codec_GetOp.f at h
  rw [Option.bind_eq_some_iff] at h
  obtain ⟨⟨p1, p2⟩, hp, h⟩ := h
  by_cases hp0 : 0 ≤ p2
  case neg => exact absurd h (by simp [hp0])
  by_cases hp1 : p2 ≤ l0.length
  case neg => exact absurd h (by simp [hp1])
  rw [if_pos hp0, if_pos hp1, Option.bind_eq_some_iff] at h
  obtain ⟨⟨q1, q2⟩, hq, h⟩ := h
  obtain ⟨l1, hl1⟩ : ∃ l1, l1 = l0.drop p2.toNat := ⟨_, rfl⟩
  have hlen1 : (l1.length : Int) = l0.length - p2 := by rw [hl1, List.length_drop]; omega
  simp only [← hl1] at hq h
  by_cases hq0 : 0 ≤ q2
  case neg => exact absurd h (by simp [hq0])
  by_cases hq1 : q2 ≤ l1.length
  case neg => exact absurd h (by simp [hq1])
  rw [if_pos hq0, if_pos hq1, Option.bind_eq_some_iff] at h
  obtain ⟨⟨s1, s2⟩, hs, h⟩ := h
  obtain ⟨l2, hl2⟩ : ∃ l2, l2 = l1.drop q2.toNat := ⟨_, rfl⟩
  have hlen2 : (l2.length : Int) = l1.length - q2 := by rw [hl2, List.length_drop]; omega
  simp only [← hl2] at hs h
  by_cases hs0 : 0 ≤ s2
  case neg => exact absurd h (by simp [hs0])
  by_cases hs1 : s2 ≤ l2.length
  case neg => exact absurd h (by simp [hs1])
  rw [if_pos hs0, if_pos hs1, Option.bind_eq_some_iff] at h
  obtain ⟨t, ht, h⟩ := h
  obtain ⟨l3, hl3⟩ : ∃ l3, l3 = l2.drop s2.toNat := ⟨_, rfl⟩
  have hlen3 : (l3.length : Int) = l2.length - s2 := by rw [hl3, List.length_drop]; omega
  have H := Aside0.mk (Option.some.inj h)
  have HP := Aside0.mk hp
  have HQ := Aside0.mk hq
  have HS := Aside0.mk hs
  have HT := Aside0.mk ht
  have HR0 := Aside0.mk hr0
  have HC0 := Aside0.mk hc0
  have HP0 := Aside0.mk hp0
  have HP1 := Aside0.mk hp1
  have HQ0 := Aside0.mk hq0
  have HQ1 := Aside0.mk hq1
  have HS0 := Aside0.mk hs0
  have HS1 := Aside0.mk hs1
  have L1 := Aside0.mk hl1
  have L2 := Aside0.mk hl2
  have L3 := Aside0.mk hl3
  have N1 := Aside0.mk hlen1
  have N2 := Aside0.mk hlen2
  have N3 := Aside0.mk hlen3
  clear h hp hq hs ht hr0 hc0 hp0 hp1 hq0 hq1 hs0 hs1 hl1 hl2 hl3 hlen1 hlen2 hlen3
  obtain ⟨wb, hwb⟩ : ∃ wb, wb = w.alloc (.cells #[.int .i64 0, .int .i64 0, .int .i64 0] 23) := ⟨_, rfl⟩
  have HWB := Aside0.mk hwb
  have HBW := Aside0.mk (below_alloc (Below.refl _ _) (.cells #[.int .i64 0, .int .i64 0, .int .i64 0] 23) : Below w.heap.size w (w.alloc (.cells #[.int .i64 0, .int .i64 0, .int .i64 0] 23)))
  have HOB := Aside0.mk (heap_alloc_new w (.cells #[.int .i64 0, .int .i64 0, .int .i64 0] 23))
  rw [← hwb] at HBW HOB
  clear hwb
  go_enter Try.func12, Try.ntmps12
  have tokA_ : True := trivial
  have tokB_ : True := trivial
  have tokC_ : True := trivial
  have tokD_ : True := trivial
  have tokE_ : True := trivial
  have tokF_ : True := trivial
  go_wp2_with (first
    | (clear tokA_; go_at_call 26; refine (codec_GetOp.reader _ _ _ _).mono ?_; rintro e W0 ⟨rfl, hS0⟩; rw [← HWB.out] at hS0 ⊢; obtain ⟨B, hB⟩ : ∃ B, B = wb.heap.size := ⟨_, rfl⟩; rw [← hB] at hS0 ⊢; obtain ⟨F, hF⟩ : ∃ F, F = B + 1 := ⟨_, rfl⟩; rw [← hF] at hS0 ⊢; have HRS0 := Aside0.mk hS0; clear hS0 hB hF)
    | (clear tokB_; go_at_call 40; refine (codec_GetOp.get k wb _ B F A0 c0 l0 true p1 p2 HRS0.out (Kd.C_below HR0.out HBW.out) HC0.out HP.out HP0.out HP1.out).mono ?_; rintro e W1 ⟨A1, rfl, hS1, hr1, hc1, hk1⟩; rw [← L1.out] at hS1 hr1 hc1; have HRS1 := Aside0.mk hS1; have HR1 := Aside0.mk hr1; have HC1 := Aside0.mk hc1; clear hS1 hr1 hc1 hk1)
    | (clear tokC_; go_at_call 40; refine (codec_GetOp.gets k wb _ B F _ _ l1 _ q1 q2 HRS1.out HR1.out HC1.out HQ.out HQ0.out HQ1.out).mono ?_; rintro e W2 ⟨A2, rfl, hS2, hr2, hc2, hk2⟩; rw [← L2.out] at hS2 hr2 hc2; have HRS2 := Aside0.mk hS2; have HR2 := Aside0.mk hr2; have HC2 := Aside0.mk hc2; clear hS2 hr2 hc2 hk2)
    | (clear tokD_; go_at_call 40; refine (codec_GetOp.gets k wb _ B F _ _ l2 _ s1 s2 HRS2.out HR2.out HC2.out HS.out HS0.out HS1.out).mono ?_; rintro e W3 ⟨A3, rfl, hS3, hr3, hc3, hk3⟩; rw [← L3.out] at hS3 hr3 hc3; obtain ⟨fine, hfine⟩ : ∃ fine, fine = (((true && decide (p2 > 0)) && decide (q2 > 0)) && decide (s2 > 0)) := ⟨_, rfl⟩; rw [← hfine] at hS3; have HRS3 := Aside0.mk hS3; have HR3 := Aside0.mk hr3; have HC3 := Aside0.mk hc3; have HF := Aside0.mk hfine; clear hS3 hr3 hc3 hk3 hfine)
    | (clear tokE_; go_at_call 41; refine (codec_GetOp.whole wb _ B F _ _ (HRS3.out.below (below_alloc (Below.refl _ _) _))).mono ?_; rintro e W4 ⟨rfl, rfl⟩
       have HRS4 := Aside0.mk (HRS3.out.below (below_alloc (Below.refl _ _) (.cells #[.int .i64 p1, .int .i64 q1, .int .i64 s1] 23) : Below W3.heap.size W3 (W3.alloc _)))
       have HST := Aside0.mk (heap_alloc_new W3 (.cells #[.int .i64 p1, .int .i64 q1, .int .i64 s1] 23))
       obtain ⟨G, hG⟩ : ∃ G, G = W3.heap.size := ⟨_, rfl⟩
       rw [← hG] at HST ⊢
       obtain ⟨W4, hW4⟩ : ∃ W4, W4 = W3.alloc (.cells #[.int .i64 p1, .int .i64 q1, .int .i64 s1] 23) := ⟨_, rfl⟩
       rw [← hW4] at HRS4 HST ⊢
       clear hG hW4 HRS3 HRS2 HRS1 HRS0
       have HO4 := Aside0.mk (blk_below HOB.out HRS4.out.2.2.1)
       have st0 : W4.cell? ⟨G, 0, none⟩ = some (.int .i64 p1) := (blk_cell HST.out 0).trans rfl
       have st1 : W4.cell? ⟨G, 1, none⟩ = some (.int .i64 q1) := (blk_cell HST.out 1).trans rfl
       have st2 : W4.cell? ⟨G, 2, none⟩ = some (.int .i64 s1) := (blk_cell HST.out 2).trans rfl
       have sr0 : W4.cell? ⟨w.heap.size, 0, none⟩ = some (.int .i64 0) := (blk_cell HO4.out 0).trans rfl
       have sr1 : W4.cell? ⟨w.heap.size, 1, none⟩ = some (.int .i64 0) := (blk_cell HO4.out 1).trans rfl
       have sr2 : W4.cell? ⟨w.heap.size, 2, none⟩ = some (.int .i64 0) := (blk_cell HO4.out 2).trans rfl
       have sf0 := blk_frozen HO4.out 0
       have sf1 := blk_frozen HO4.out 1
       have sf2 := blk_frozen HO4.out 2
       cases fine)
    | (clear tokF_; go_at_call 20; refine (objs_Fits.calls p1 q1 s1 t _ HT.out).mono ?_; rintro e W5 ⟨rfl, hb5⟩
       have HRS5 := Aside0.mk (HRS4.out.below hb5)
       have HO5 := Aside0.mk (blk_below HO4.out hb5)
       have HST5 := Aside0.mk (blk_below HST.out hb5)
       clear HRS4 HO4 HST hb5 sr0 sr1 sr2 st0 st1 st2 sf0 sf1 sf2
       have st0 : W5.cell? ⟨G, 0, none⟩ = some (.int .i64 p1) := (blk_cell HST5.out 0).trans rfl
       have st1 : W5.cell? ⟨G, 1, none⟩ = some (.int .i64 q1) := (blk_cell HST5.out 1).trans rfl
       have st2 : W5.cell? ⟨G, 2, none⟩ = some (.int .i64 s1) := (blk_cell HST5.out 2).trans rfl
       have sr0 : W5.cell? ⟨w.heap.size, 0, none⟩ = some (.int .i64 0) := (blk_cell HO5.out 0).trans rfl
       have sr1 : W5.cell? ⟨w.heap.size, 1, none⟩ = some (.int .i64 0) := (blk_cell HO5.out 1).trans rfl
       have sr2 : W5.cell? ⟨w.heap.size, 2, none⟩ = some (.int .i64 0) := (blk_cell HO5.out 2).trans rfl
       have sf0 := blk_frozen HO5.out 0
       have sf1 := blk_frozen HO5.out 1
       have sf2 := blk_frozen HO5.out 2
       cases t))
  · have h := H.out
    have hf := HF.out
    rw [if_neg (by rintro ⟨a, b, c, d⟩; rw [decide_eq_true a, decide_eq_true b, decide_eq_true c] at hf; exact absurd hf (by decide))] at h
    simp only [Prod.mk.injEq] at h
    obtain ⟨rfl, rfl, rfl, rfl⟩ := h
    refine bodyPost_ret (results_ct rfl _ _ w.heap.size 23 #[.int .i64 0, .int .i64 0, .int .i64 0] (0, 0) _ rfl (blk_put (blk_put (blk_put HO4.out 0 _ rfl) 1 _ rfl) 2 _ rfl) Try.underlying23 rfl (by kernel_rfl)) rfl ⟨rfl, ?_⟩
    exact below_set (below_set (below_set (below_step HBW.out HRS4.out.2.2.1) (Nat.le_refl _)) (Nat.le_refl _)) (Nat.le_refl _)
  · have h := H.out
    rw [if_neg (by rintro ⟨a, b, c, d⟩; exact absurd d (by decide))] at h
    simp only [Prod.mk.injEq] at h
    obtain ⟨rfl, rfl, rfl, rfl⟩ := h
    refine bodyPost_ret (results_ct rfl _ _ w.heap.size 23 #[.int .i64 0, .int .i64 0, .int .i64 0] (0, 0) _ rfl (blk_put (blk_put (blk_put HO5.out 0 _ rfl) 1 _ rfl) 2 _ rfl) Try.underlying23 rfl (by kernel_rfl)) rfl ⟨rfl, ?_⟩
    exact below_set (below_set (below_set (below_step HBW.out HRS5.out.2.2.1) (Nat.le_refl _)) (Nat.le_refl _)) (Nat.le_refl _)
  · have HRS6 := Aside0.mk HRS5.out.drew
    go_region_with (go_at_call 42; refine (codec_GetOp.left wb _ B F _ _ _ _ HRS6.out).mono ?_; rintro e W6 ⟨rfl, rfl⟩)
    all_goals
      have h := H.out
      have hf := HF.out
      obtain ⟨x1, x2, x3⟩ := codec_GetOp.fine3 hf
      have hp := of_decide_eq_true x1
      have hq := of_decide_eq_true x2
      have hs := of_decide_eq_true x3
      rw [if_pos ⟨hp, hq, hs, by trivial⟩] at h
      simp only [Prod.mk.injEq] at h
      obtain ⟨rfl, rfl, rfl, rfl⟩ := h
      have hl := HR0.out.2.1
      have n1 := N1.out
      have n2 := N2.out
      have n3 := N3.out
      have hw : IntKind.i64.wrap ((l0.length : Int) - (l3.length : Int)) = p2 + q2 + s2 := by
        rw [show (l0.length : Int) - (l3.length : Int) = p2 + q2 + s2 by omega]
        exact IntWalk.i64_in _ (by omega)
      go_wp2
      refine bodyPost_ret (results_ct rfl _ _ w.heap.size 23 #[.int .i64 p1, .int .i64 q1, .int .i64 s1] (0, 0) _ rfl (blk_put (blk_put (blk_put (blk_drew HO5.out) 0 _ rfl) 1 _ rfl) 2 _ rfl) Try.underlying23 rfl (by kernel_rfl)) rfl ⟨?_, ?_⟩
      · first | rfl | (rw [hw]; rfl) | (simp only [hw]; rfl)
      · exact below_set (below_set (below_set (below_drew1 (below_step HBW.out HRS5.out.2.2.1)) (Nat.le_refl _)) (Nat.le_refl _)) (Nat.le_refl _)

/-! ### ferrymanlaw04_Few: function 14 -/
def ferrymanlaw04_Few.f (a0_0 : Int) (l0_1 : List Int) (a0_2 : Bool) (a0_3 : Int) : Option (Bool) := some (decide ((l0_1.length : Int) ≤ 300))
set_option maxHeartbeats 8000000 in
set_option maxRecDepth 100000 in
theorem ferrymanlaw04_Few.calls (a0_0 : Int) (A0_1 : Option Addr) (c0_1 : Nat) (l0_1 : List Int) (a0_2 : Bool) (a0_3 : Int) (r : Bool) (w : World) (hr0_1 : Kd.C (Kd.int .i64) w A0_1 l0_1.length l0_1) (hc0_1 : l0_1.length ≤ c0_1) (h : ferrymanlaw04_Few.f a0_0 l0_1 a0_2 a0_3 = some r) :
    Calls Try.prog 14 #[.agg #[.int .i64 a0_0, .slice A0_1 l0_1.length c0_1, .bool a0_2, .int .i64 a0_3]] w fun e w' => e = .returned (.bool r) ∧ Below w.heap.size w w' := by
  have hu35 := Try.underlying35
  have HR0_1 := Aside0.mk hr0_1
  have HC0_1 := Aside0.mk hc0_1
  clear hr0_1 hc0_1
  have HB := Aside0.mk (Below.refl w.heap.size w)
  have H : (some (decide ((l0_1.length : Int) ≤ 300))) = some r := h
  clear h
  obtain rfl := Option.some.inj H
  go_enter Try.func14, Try.ntmps14
  go_wp2_with (first | ((with_reducible refine gate_dst (N := 1) rfl ?_); refine box_event ?hg (N := 1) ?hd (cs := #[.int .i64 a0_0, .slice A0_1 l0_1.length c0_1, .bool a0_2, .int .i64 a0_3]) (t := 35) ?hr ?_; (case hd => rfl); (case hg => rfl); (case hr => first | (go_simp; done) | (go_simp; rfl)); intro gb171 hg w2 hbox hb; have n0_ := Aside0.mk (below_step (by repeat (first | (with_reducible first | exact HB.out | apply below_alloc | apply pw_below_drewN | apply below_drew1) | exact HB.out)) hb); have n1_ := Aside0.mk (hbox); have n2_ := Aside0.mk ((by rw [hg]; exact (below_size (by repeat (first | (with_reducible first | exact HB.out | apply below_alloc | apply pw_below_drewN | apply below_drew1) | exact HB.out))) : w.heap.size ≤ gb171)); have n3_ := Aside0.mk ((by rw [hg]; exact (below_size (by repeat (first | (with_reducible first | exact HB.out | apply below_alloc | apply pw_below_drewN | apply below_drew1) | exact HB.out))) : w.heap.size ≤ gb171)); clear HB; have HB := n0_; have BK171 := n1_; have GW171 := n2_; have GE171 := n3_; clear n0_ n1_ n2_ n3_; clear hb hbox hg; have hcz3_0 : w2.cell? ⟨gb171, 0, none⟩ = some (.int .i64 a0_0) := (blk_cell BK171.out 0).trans rfl; have hcz3_1 : w2.cell? ⟨gb171, 1, none⟩ = some (.slice A0_1 l0_1.length c0_1) := (blk_cell BK171.out 1).trans rfl; have hcz3_2 : w2.cell? ⟨gb171, 2, none⟩ = some (.bool a0_2) := (blk_cell BK171.out 2).trans rfl; have hcz3_3 : w2.cell? ⟨gb171, 3, none⟩ = some (.int .i64 a0_3) := (blk_cell BK171.out 3).trans rfl; have hfz3_0 := blk_frozen BK171.out 0; have hfz3_1 := blk_frozen BK171.out 1; have hfz3_2 := blk_frozen BK171.out 2; have hfz3_3 := blk_frozen BK171.out 3))
  go_ret
  exact ⟨by first | rfl | (simp [errW_none, errW_some] <;> rfl) | (simp [*, errW_none, errW_some] <;> rfl), by repeat (first | (with_reducible first | exact HB.out | apply below_alloc | apply pw_below_drewN | apply below_drew1 | refine below_set ?_ GE171.out) | exact HB.out)⟩

end Go.Proofs.Yteojopdcmdipaaa.QCodecBack
