/- What this text proves: the functions that a law reaches, as functions on numbers and lists, and that Go's come to their answers; no condition. Written by the kit's print program, turned (wip/tools/patch_print.py). -/
import Derived.Test.YtjkkkmgeolfhfaaQCrcEntriesx0
namespace Go.Proofs.Ytjkkkmgeolfhfaa.QCrcEntries
open Go.RowKit Go.Proofs.YtjkkkmgeolfhfaaW.PrintWords Go.Proofs.YtjkkkmgeolfhfaaW.PrintLast Go.Proofs.YtjkkkmgeolfhfaaW.PrintMore
attribute [local go_sem] max2_int min2_int max_two min_two max_three min_three max_four min_four   -- for this text's walks alone
set_option linter.unusedVariables false
set_option linter.unusedSimpArgs false

-- NOT PRINTED: function 12 (crc_Table)

/-! ### crc_More: function 15 -/
def crc_More.f (a0 : Int) (l1 : List Int) : Option (Int) := Go.Proofs.Ytjkkkmgeolfhfaa.Own.moreF a0 l1
theorem crc_More.calls (a0 : Int) (A1 : Option Addr) (c1 : Nat) (l1 : List Int) (r : Int) (w : World) (hr1 : Kd.C (Kd.int .u8) w A1 l1.length l1) (hc1 : l1.length ≤ c1) (h : crc_More.f a0 l1 = some r) :
    Calls Try.prog 15 #[.int .u32 a0, .slice A1 l1.length c1] w fun e w' => e = .returned (.int .u32 r) ∧ Below w.heap.size w w' :=
  Go.Proofs.Ytjkkkmgeolfhfaa.Own.more_calls a0 A1 c1 l1 r w hr1 hc1 h

/-! ### crc_Sum: function 13 -/
def crc_Sum.f (l0 : List Int) : Option (Int) := (crc_More.f 0 l0).bind fun t101 => (some t101)
set_option maxHeartbeats 8000000 in
set_option maxRecDepth 100000 in
theorem crc_Sum.calls (A0 : Option Addr) (c0 : Nat) (l0 : List Int) (r : Int) (w : World) (hr0 : Kd.C (Kd.int .u8) w A0 l0.length l0) (hc0 : l0.length ≤ c0) (h : crc_Sum.f l0 = some r) :
    Calls Try.prog 13 #[.slice A0 l0.length c0] w fun e w' => e = .returned (.int .u32 r) ∧ Below w.heap.size w w' := by
  have HR0 := Aside0.mk hr0
  have HC0 := Aside0.mk hc0
  clear hr0 hc0
  have HB := Aside0.mk (Below.refl w.heap.size w)
  have H : ((crc_More.f 0 l0).bind fun t101 => (some t101)) = some r := h
  clear h
  replace H := Option.bind_eq_some_iff.mp H
  obtain ⟨t101, A20, H⟩ := H
  replace H : (some t101) = some r := H
  have A2 := Aside0.mk A20
  clear A20
  obtain rfl := Option.some.inj H
  go_enter Try.func13, Try.ntmps13
  go_wp2_with (first | ((with_reducible refine gate_callee (f := 15) rfl ?_); refine goesL_ (some 4) rfl rfl Try.func15 (by kernel_rfl) rfl #[.int .u32 0, .slice A0 l0.length c0] rfl (by (try simp only [List.map_toArray, List.map_cons, List.map_nil]); first | done | rfl | (simp only [List.length_drop, List.length_take]; rfl)) ?_; (with_reducible refine (crc_More.calls 0 _ _ l0 t101 _ ?side1 ?side2 A2.out).mono ?_); (case side1 => repeat (first | exact HR0.out | (with_reducible refine Kd.C_alloc ?_ _) | (with_reducible refine Kd.C_drewN ?_ _) | (with_reducible refine Kd.C_drew ?_))); (case side2 => exact HC0.out); rintro e w3 ⟨rfl, hb⟩; refine ⟨_, rfl, ?_⟩; have n0_ := Aside0.mk (below_step (by repeat (first | (with_reducible first | exact HB.out | apply below_alloc | apply pw_below_drewN | apply below_drew1) | exact HB.out)) hb); clear HB; have HB := n0_; clear n0_; (try clear hb); (try clear hb2); (try clear hk); (try clear hi)))
  go_ret
  exact ⟨by first | rfl | (simp [errW_none, errW_some] <;> rfl) | (simp [*, errW_none, errW_some] <;> rfl), by repeat (first | (with_reducible first | exact HB.out | apply below_alloc | apply pw_below_drewN | apply below_drew1) | exact HB.out)⟩

/-! ### ferrymanlaw02_awake: function 11 -/
def ferrymanlaw02_awake.f : Option (Bool) := some true
theorem sum9 : crc_Sum.f [49, 50, 51, 52, 53, 54, 55, 56, 57] = some 3808858755 := by
  have e : crc_More.f 0 [49, 50, 51, 52, 53, 54, 55, 56, 57] = some 3808858755 := by decide +kernel
  unfold crc_Sum.f
  rw [e]
  rfl
theorem sum0 : crc_Sum.f [] = some 0 := by
  have e : crc_More.f 0 [] = some 0 := by decide +kernel
  unfold crc_Sum.f
  rw [e]
  rfl
theorem nine_reads (W : World) : Kd.C (Kd.int .u8) (W.alloc (.cells #[.int .u8 49, .int .u8 50, .int .u8 51, .int .u8 52, .int .u8 53, .int .u8 54, .int .u8 55, .int .u8 56, .int .u8 57] 5 (9, 10))) (some ⟨W.heap.size, 0, none⟩) 9 [49, 50, 51, 52, 53, 54, 55, 56, 57] := by
  refine Kd.C_of_reads (readsInt_of.1 ⟨rfl, by decide, fun _ => ⟨_, rfl, fun i hi => ?_⟩⟩)
  have hi : i < 9 := hi
  have e : (⟨W.heap.size, 0, none⟩ : Addr).add i = ⟨W.heap.size, i, none⟩ := by unfold Addr.add; split <;> simp_all
  rw [e, World.cell?_alloc_mark]
  have key : ∀ i : Fin 9, (#[Value.int .u8 49, .int .u8 50, .int .u8 51, .int .u8 52, .int .u8 53, .int .u8 54, .int .u8 55, .int .u8 56, .int .u8 57])[i.val]? = some (.int .u8 (rd [49, 50, 51, 52, 53, 54, 55, 56, 57] (i.val : Nat))) := by
    intro i
    obtain ⟨i, hi⟩ := i
    rcases i with _ | _ | _ | _ | _ | _ | _ | _ | _ | i
    all_goals first | rfl | omega
  exact key ⟨i, hi⟩
set_option maxHeartbeats 8000000 in
set_option maxRecDepth 100000 in
theorem ferrymanlaw02_awake.calls (r : Bool) (w : World) (h : ferrymanlaw02_awake.f = some r) :
    Calls Try.prog 11 #[] w fun e w' => e = .returned (.bool r) ∧ Below w.heap.size w w' := by
  obtain rfl := Option.some.inj h
  clear h
  have kc := fun (w : World) (C : Array Value) (n c : Nat) => Lib.run_convert_bytes_const (P := Try.prog) w 23 5 C n c Try.underlying23 Try.underlying5
  have tok1_ : True := trivial
  go_enter Try.func11, Try.ntmps11
  go_wp2_with (first
    | (go_at_call 13; clear tok1_; refine (crc_Sum.calls (some ⟨w.heap.size, 0, none⟩) 9 [49, 50, 51, 52, 53, 54, 55, 56, 57] 3808858755 _ (nine_reads w) (Nat.le_refl _) sum9).mono ?_; rintro e w1 ⟨rfl, hb⟩; have HB := Aside0.mk (below_step (below_alloc (Below.refl _ _) _) hb); clear hb)
    | (go_at_call 13; refine (crc_Sum.calls none 0 [] 0 _ (Kd.C_nil _ _) (Nat.le_refl _) sum0).mono ?_; rintro e w2 ⟨rfl, hb⟩; have HB2 := Aside0.mk (below_step HB.out hb); clear hb))
  go_ret
  exact ⟨rfl, HB2.out⟩

/-! ### ferrymanlaw02_CrcEntries: function 8 -/
def ferrymanlaw02_CrcEntries.Pure : Prop := ∀ (a0 : Int) (a1 : Int), (Lit.int .u8 a0).wf = true → (Lit.int .u8 a1).wf = true →
  Own.ent (Go.bits .xor .u8 a0 a1).toNat = Go.bits .xor .u32 (Own.ent a0.toNat) (Own.ent a1.toNat) ∧ Own.ent 0 = 0 ∧ (a0 ≠ a1 → Own.ent a0.toNat ≠ Own.ent a1.toNat)
theorem tab_cell (W : World) (j : Nat) (h : j < 256) : (W.alloc (.cells (Own.tabv 256) 25)).cell? ⟨W.heap.size, j, none⟩ = some (.int .u32 (Own.ent j)) := by
  rw [World.cell?_alloc_new, Own.tabv_get _ _ h, if_pos h]
theorem xor_u8_range (a b : Int) : 0 ≤ Go.bits .xor .u8 a b ∧ Go.bits .xor .u8 a b < 256 := by
  have e : Go.bits .xor .u8 a b = IntKind.u8.wrap ((BitVec.ofInt 8 a ^^^ BitVec.ofInt 8 b).toNat : Int) := rfl
  rw [e, Go.IntKind.wrap_u8]
  omega
set_option maxHeartbeats 8000000 in
set_option maxRecDepth 100000 in
theorem ferrymanlaw02_CrcEntries.walk (P : ferrymanlaw02_CrcEntries.Pure) (a0 : Int) (a1 : Int) (w : World) (w0 : (Lit.int .u8 a0).wf = true) (w1 : (Lit.int .u8 a1).wf = true) :
    Calls Try.prog 8 #[.int .u8 a0, .int .u8 a1] w fun e w' => e = .returned (.bool true) ∧ Below w.heap.size w w' := by
  obtain ⟨p1, p2, p3⟩ := P a0 a1 w0 w1
  have r0 : 0 ≤ a0 ∧ a0 ≤ 255 := Go.bounds_u8 w0
  have r1 : 0 ≤ a1 ∧ a1 ≤ 255 := Go.bounds_u8 w1
  clear P w0 w1
  obtain ⟨a, rfl⟩ := Int.eq_ofNat_of_zero_le r0.1
  obtain ⟨b, rfl⟩ := Int.eq_ofNat_of_zero_le r1.1
  have ha : a < 256 := by omega
  have hb : b < 256 := by omega
  clear r0 r1
  obtain ⟨c, hc⟩ := Int.eq_ofNat_of_zero_le (xor_u8_range (a : Int) (b : Int)).1
  have hc2 := (xor_u8_range (a : Int) (b : Int)).2
  rw [hc] at p1 hc2
  have hcl : c < 256 := by omega
  clear hc2
  simp only [Int.toNat_natCast] at p1 p3
  have q1 : (Own.ent c == Go.bits .xor .u32 (Own.ent a) (Own.ent b)) = true := by rw [p1]; simp
  have q2 : (Own.ent 0 == 0) = true := by rw [p2]; simp
  have P3 := Aside0.mk p3
  clear p1 p2 p3
  have hz := fun w => Own.tabv_zero w
  have hrow := fun w : World => World.setRow_alloc_new w (Own.tabv 0) (Own.tabv 256) 25
  have tok1_ : True := trivial
  have hab : (((a : Int) == (b : Int)) = true) ∨ ((((a : Int) == (b : Int)) = false) ∧ ((Own.ent a != Own.ent b) = true)) := by
    by_cases e : (a : Int) = (b : Int)
    · exact .inl (by simp [e])
    · exact .inr ⟨by simpa using e, by simpa using P3.out e⟩
  rcases hab with hab | ⟨hab, hne⟩
  all_goals
    go_enter Try.func8, Try.ntmps8
    go_wp2_with (first
      | (go_at_call 11; refine (ferrymanlaw02_awake.calls true _ rfl).mono ?_; rintro e w2 ⟨rfl, hb1⟩; have HB1 := Aside0.mk hb1; clear hb1)
      | (go_at_call 12; refine (Own.table _).mono ?_; rintro e w3 ⟨rfl, hb2⟩; have HB2 := Aside0.mk hb2; clear hb2)
      | (clear tok1_; refine wpList_store_row rfl 25 (.tmp 6) (.tmp 8) rfl w3.heap.size (Own.tabv 256) rfl rfl 25 (Own.tabv 0) (heap_alloc_new w3 _) (by rw [Own.tabv_size]; kernel_rfl) (by rw [Own.tabv_size, Own.tabv_size]) (Own.tabv_one 256) ?_))
    have ta := tab_cell w3 a ha
    have tb := tab_cell w3 b hb
    have tc := tab_cell w3 c hcl
    have t0 := tab_cell w3 0 (by omega)
    have ia : (a : Int) < 256 := by omega
    have ib : (b : Int) < 256 := by omega
    have ic : (c : Int) < 256 := by omega
    have ja : 0 ≤ (a : Int) := by omega
    have jb : 0 ≤ (b : Int) := by omega
    have jc : 0 ≤ (c : Int) := by omega
    clear hz ha hb hcl
    rw [World.setRow_alloc_new]
    clear hrow
    go_quiet (fail)
    go_wp2
    go_ret
    exact ⟨rfl, by repeat (first | exact below_step HB1.out HB2.out | apply below_alloc | apply pw_below_drewN | apply below_drew1)⟩

end Go.Proofs.Ytjkkkmgeolfhfaa.QCrcEntries
