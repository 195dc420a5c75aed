/- What this text proves: crc.Table returns the table of the polynomial, and crc.More what a sum goes on to (CrcMath.more), in whatever memory; condition: each letter is a byte. -/
import Derived.Test.YtgljebaiakhbfaaGreatPTopUpgradesx0
import Derived.Lib.Hide
import Derived.Laws.CopyOwn
import Derived.Deep.WholeRow
import Derived.Test.YtgljebaiakhbfaaGreatCrcMath
namespace Go.Proofs.YtgljebaiakhbfaaGreat.Own
open Go.RowKit Go.Proofs.YtgljebaiakhbfaaGreatW.PrintWords Go.Proofs.YtgljebaiakhbfaaGreatW.PrintLast Go.Proofs.YtgljebaiakhbfaaGreatW.PrintMore
def ent (c : Nat) : Int := ((CrcMath.zn 8 (BitVec.ofNat 32 c)).toNat : Int)
def tabv (k : Nat) : Array Value := ((List.range 256).map fun i => if i < k then Value.int .u32 (ent i) else Value.int .u32 0).toArray
theorem tabv_zero (w : World) : (zeroValue 235).run Tryz.prog w = .ok (.agg (tabv 0)) w := by kernel_rfl
theorem tabv_size (k : Nat) : (tabv k).size = 256 := by simp [tabv]
theorem tabv_get (k i : Nat) (h : i < 256) : (tabv k)[i]? = some (if i < k then Value.int .u32 (ent i) else Value.int .u32 0) := by
  simp [tabv, h]
theorem tabv_step (k : Nat) (h : k < 256) : (tabv k).setIfInBounds k (.int .u32 (ent k)) = tabv (k + 1) := by
  apply Array.ext_getElem?
  intro i
  rcases Nat.lt_or_ge i 256 with hi | hi
  · rw [Array.getElem?_setIfInBounds, tabv_get _ _ hi, tabv_get _ _ hi]
    by_cases e : k = i
    · subst e; simp [tabv_size, h]
    · rw [if_neg e]
      have : (i < k) = (i < k + 1) := by simp only [eq_iff_iff]; omega
      simp only [this]
  · rw [Array.getElem?_eq_none (by simp [tabv_size]; exact hi), Array.getElem?_eq_none (by rw [tabv_size]; exact hi)]
theorem and_low (s : BitVec 32) : Go.bits .and .u32 (s.toNat : Int) 1 = if s.getLsbD 0 then 1 else 0 := by
  have h := s.isLt
  have e : Go.bits .and .u32 (s.toNat : Int) 1 = (s.toNat : Int) % 2 := by
    have := Go.bits_mask .u32 32 (by decide) (fun n h0 h1 => by rw [Go.IntKind.wrap_u32]; omega) 1 (by decide) (s.toNat : Int) (by omega) (by omega)
    simpa using this
  rw [e]
  have : s.getLsbD 0 = decide (s.toNat % 2 = 1) := by
    rw [BitVec.getLsbD, Nat.testBit_zero]
  rw [this]
  by_cases h1 : s.toNat % 2 = 1
  · simp [h1]; omega
  · simp [h1]; omega
theorem bits_u32 (x y : BitVec 32) : Go.bits .xor .u32 (x.toNat : Int) (y.toNat : Int) = ((x ^^^ y).toNat : Int) := by
  have e : Go.bits .xor .u32 (x.toNat : Int) (y.toNat : Int) = IntKind.u32.wrap ((BitVec.ofInt 32 (x.toNat : Int) ^^^ BitVec.ofInt 32 (y.toNat : Int)).toNat : Int) := rfl
  have hx : BitVec.ofInt 32 (x.toNat : Int) = x := by apply BitVec.eq_of_toNat_eq; rw [BitVec.toNat_ofInt]; have := x.isLt; omega
  have hy : BitVec.ofInt 32 (y.toNat : Int) = y := by apply BitVec.eq_of_toNat_eq; rw [BitVec.toNat_ofInt]; have := y.isLt; omega
  have := (x ^^^ y).isLt
  rw [e, hx, hy, Go.IntKind.wrap_u32]; omega
theorem half (s : BitVec 32) : (s.toNat : Int) / (2 : Int) = ((s >>> 1).toNat : Int) := by
  rw [BitVec.toNat_ushiftRight, Nat.shiftRight_eq_div_pow]; omega
theorem round_eq (s : BitVec 32) : Go.bits .xor .u32 ((s.toNat : Int) / 2) (Go.bits .and .u32 2197175160 ((-(Go.bits .and .u32 (s.toNat : Int) 1)) % 4294967296)) = ((CrcMath.z s).toNat : Int) := by
  rw [half, and_low]
  unfold CrcMath.z
  cases s.getLsbD 0
  · rw [if_neg (by simp), show Go.bits .and .u32 2197175160 ((-0) % 4294967296) = ((0#32).toNat : Int) by decide +kernel, bits_u32]
    rfl
  · rw [if_pos rfl, show Go.bits .and .u32 2197175160 ((-1) % 4294967296) = (CrcMath.P.toNat : Int) by decide +kernel, bits_u32]
    rfl
theorem tabv_one (k : Nat) : (tabv k).all (·.oneCell') = true := by
  rw [Array.all_eq_true_iff_forall_mem]
  intro v hv
  simp only [tabv, List.mem_toArray, List.mem_map] at hv
  obtain ⟨i, _, rfl⟩ := hv
  split <;> rfl
set_option maxHeartbeats 400000 in
set_option maxRecDepth 100000 in
theorem table (w : World) : Calls Tryz.prog 173 #[] w fun e w' => e = .returned (.agg (tabv 256)) ∧ Below w.heap.size w w' := by
  have hz := fun w => tabv_zero w
  go_enter Tryz.func173, Tryz.ntmps173
  go_wp2_with fail
  go_loopw [5] (fun v5 wr => ∃ k : Nat, k ≤ 256 ∧ v5 = .int .i64 k ∧ wr = (w.alloc (.cells (tabv 0) 235)).alloc (.cells (tabv k) 235)) (fun v5 _ => 256 - (intOf v5).toNat)
  case atStart => exact ⟨0, by omega, rfl, rfl⟩
  case round =>
    obtain ⟨k, hk, rfl, rfl⟩ := hrel
    by_cases hlt : k < 256
    · go_wp2_with fail
      go_loop [3, 10] (fun v3 v10 => ∃ j : Nat, j ≤ 8 ∧ v10 = .int .i64 j ∧ v3 = .int .u32 ((CrcMath.zn j (BitVec.ofNat 32 k)).toNat : Int)) (fun _ v10 => 8 - (intOf v10).toNat)
      case atStart => exact ⟨0, by omega, rfl, by simp [CrcMath.zn]; omega⟩
      case round =>
        obtain ⟨j, hj, rfl, rfl⟩ := hrel
        by_cases hj8 : j < 8
        · go_wp2_with fail
          go_round
          case rel => exact ⟨j + 1, by omega, by go_num, by rw [round_eq, ← CrcMath.zn_succ]⟩
          case measure => simp [intOf]; omega
        · have hj8' : j = 8 := by omega
          have H8 := Lib.hid hj8'
          have hcell := tabv_get k k hlt
          clear hj8'
          go_wp2_with fail
          go_roundw
          case rel => exact ⟨k + 1, by omega, by go_num, by rw [← tabv_step k hlt, ent, H8.out]⟩
          case measure => simp [intOf]; omega
    · have hk256 : k = 256 := by omega
      have H256 := Lib.hid hk256
      clear hk256
      go_wp2_with (first
        | (refine wpList_load_row rfl 235 (.tmp 1) rfl (w.heap.size + 1) rfl 235 (tabv k) (0, 0) _ (heap_alloc2_new w _ _) Tryz.underlying235 rfl (by rw [tabv_size]; kernel_rfl) ?_)
        | (refine wpList_store_row rfl 235 (.tmp 0) (.tmp 25) rfl w.heap.size (tabv k) rfl rfl 235 (tabv 0) (heap_alloc2_old w _ _) (by rw [tabv_size]; kernel_rfl) (by rw [tabv_size, tabv_size]) (tabv_one k) ?_))

      refine bodyPost_ret_by (v := .agg (tabv k)) (results_cell_row Tryz.results173 _ _ w.heap.size 235 (tabv k) (0, 0) _ rfl (setRow_heap _ _ (tabv 0) _ _ _ (heap_alloc2_old w _ _)) Tryz.underlying235 rfl (by rw [tabv_size]; kernel_rfl)) rfl ⟨by rw [H256.out], ?_⟩
      exact below_setRow (((Below.refl _ _).alloc (Nat.le_refl _) _).alloc (by simp) _) (Nat.le_refl _) _
/-! ### More -/
/-- What More comes to; none: a letter that is no byte. -/
def moreF (a0 : Int) (l1 : List Int) : Option Int := if ∀ c ∈ l1, 0 ≤ c ∧ c ≤ 255 then some ((CrcMath.more (BitVec.ofInt 32 a0) l1).toNat : Int) else none
theorem ofInt_toNat (x : BitVec 32) : BitVec.ofInt 32 (x.toNat : Int) = x := by apply BitVec.eq_of_toNat_eq; rw [BitVec.toNat_ofInt]; have := x.isLt; omega
/-- A byte's place in the table. -/
def idx (x : BitVec 32) (c : Int) : Nat := (x ^^^ BitVec.ofInt 32 c).toNat % 256
theorem idx_lt (x : BitVec 32) (c : Int) : idx x c < 256 := Nat.mod_lt _ (by omega)
theorem idx_eq (x : BitVec 32) (c : Int) : Go.bits .xor .u8 ((x.toNat : Int) % 256) c = (idx x c : Int) := by
  have e : Go.bits .xor .u8 ((x.toNat : Int) % 256) c = IntKind.u8.wrap ((BitVec.ofInt 8 ((x.toNat : Int) % 256) ^^^ BitVec.ofInt 8 c).toNat : Int) := rfl
  have e2 : (BitVec.ofInt 8 ((x.toNat : Int) % 256) ^^^ BitVec.ofInt 8 c) = (x ^^^ BitVec.ofInt 32 c).setWidth 8 := by
    rw [BitVec.setWidth_xor]
    congr 1
    · apply BitVec.eq_of_toNat_eq
      rw [BitVec.toNat_ofInt, BitVec.toNat_setWidth]; have := x.isLt; omega
    · apply BitVec.eq_of_toNat_eq
      rw [BitVec.toNat_ofInt, BitVec.toNat_setWidth, BitVec.toNat_ofInt]; omega
  rw [e, e2, Go.IntKind.wrap_u8, BitVec.toNat_setWidth]
  unfold idx
  omega
theorem zn_shift (n : Nat) : ∀ s : BitVec 32, (∀ i, i < n → s.getLsbD i = false) → CrcMath.zn n s = s >>> n := by
  induction n with
  | zero => intro s _; simp [CrcMath.zn]
  | succ n ih =>
    intro s h
    rw [CrcMath.zn_succ, ih s (fun i hi => h i (by omega))]
    unfold CrcMath.z
    have : (s >>> n).getLsbD 0 = false := by rw [BitVec.getLsbD_ushiftRight]; exact h n (by omega)
    rw [this]
    simp only [Bool.false_eq_true, if_false, BitVec.xor_zero]
    rw [BitVec.shiftRight_add]
theorem zn_split (y : BitVec 32) : CrcMath.zn 8 y = CrcMath.zn 8 (BitVec.ofNat 32 (y.toNat % 256)) ^^^ y >>> 8 := by
  have e : y = BitVec.ofNat 32 (y.toNat % 256) ^^^ (y >>> 8) <<< 8 := by
    apply BitVec.eq_of_getLsbD_eq
    intro i hi
    rw [BitVec.getLsbD_xor, BitVec.getLsbD_shiftLeft, BitVec.getLsbD_ushiftRight, BitVec.getLsbD_ofNat, show (256 : Nat) = 2 ^ 8 from rfl, Nat.testBit_mod_two_pow]
    by_cases h : i < 8
    · simp [h, hi, BitVec.getLsbD]
    · simp [h, hi, show 8 + (i - 8) = i by omega]
  have h2 : CrcMath.zn 8 ((y >>> 8) <<< 8) = y >>> 8 := by
    rw [zn_shift 8 _ (fun i hi => by rw [BitVec.getLsbD_shiftLeft]; simp [hi])]
    apply BitVec.eq_of_getLsbD_eq
    intro i hi
    rw [BitVec.getLsbD_ushiftRight, BitVec.getLsbD_shiftLeft, BitVec.getLsbD_ushiftRight]
    by_cases h : 8 + i < 32
    · simp [h, show 8 + i - 8 = i by omega]
    · simp [h, BitVec.getLsbD_of_ge y (8 + i) (by omega)]
  calc CrcMath.zn 8 y = CrcMath.zn 8 (BitVec.ofNat 32 (y.toNat % 256) ^^^ (y >>> 8) <<< 8) := by rw [← e]
    _ = _ := by rw [CrcMath.zn_xor, h2]
theorem shift8 (x : BitVec 32) : (x.toNat : Int) / (256 : Int) = ((x >>> 8).toNat : Int) := by
  rw [BitVec.toNat_ushiftRight, Nat.shiftRight_eq_div_pow]; omega
theorem step_eq (x : BitVec 32) (c : Int) (h0 : 0 ≤ c) (h1 : c ≤ 255) : Go.bits .xor .u32 (ent (idx x c)) ((x.toNat : Int) / 256) = ((CrcMath.step x c).toNat : Int) := by
  rw [shift8, ent, bits_u32]
  congr 2
  unfold CrcMath.step idx
  rw [zn_split (x ^^^ BitVec.ofInt 32 c)]
  congr 1
  apply BitVec.eq_of_getLsbD_eq
  intro i hi
  rw [BitVec.getLsbD_ushiftRight, BitVec.getLsbD_ushiftRight, BitVec.getLsbD_xor]
  have : (BitVec.ofInt 32 c).getLsbD (8 + i) = false := by
    rw [BitVec.getLsbD, BitVec.toNat_ofInt]
    apply Nat.testBit_lt_two_pow
    have : (2 : Nat) ^ 8 ≤ 2 ^ (8 + i) := Nat.pow_le_pow_right (by decide) (by omega)
    omega
  rw [this, Bool.xor_false]
theorem not_eq (a : Int) : Go.bits .xor .u32 4294967295 a = ((~~~ (BitVec.ofInt 32 a)).toNat : Int) := by
  have e : Go.bits .xor .u32 4294967295 a = IntKind.u32.wrap ((BitVec.ofInt 32 4294967295 ^^^ BitVec.ofInt 32 a).toNat : Int) := rfl
  rw [e, show BitVec.ofInt 32 4294967295 = BitVec.allOnes 32 by decide, BitVec.allOnes_xor, Go.IntKind.wrap_u32]
  have := (~~~ (BitVec.ofInt 32 a)).isLt
  omega
set_option maxHeartbeats 400000 in
set_option maxRecDepth 100000 in
theorem more_calls (a0 : Int) (A1 : Option Addr) (c1 : Nat) (l1 : List Int) (r : Int) (w : World) (hr1 : Kd.C (Kd.int .u8) w A1 l1.length l1) (hc1 : l1.length ≤ c1) (h : moreF a0 l1 = some r) :
    Calls Tryz.prog 149 #[.int .u32 a0, .slice A1 l1.length c1] w fun e w' => e = .returned (.int .u32 r) ∧ Below w.heap.size w w' := by
  have HR := Aside0.mk hr1
  have HC := Aside0.mk hc1
  have HL := Aside0.mk hr1.2.1
  clear hr1 hc1
  unfold moreF at h
  by_cases hb : ∀ c ∈ l1, 0 ≤ c ∧ c ≤ 255
  · rw [if_pos hb] at h
    have HBY := Aside0.mk hb
    have HE := Aside0.mk (Option.some.inj h)
    clear h hb
    have hz := fun w => tabv_zero w
    have hrow := fun w : World => World.setRow_alloc_new w (tabv 0) (tabv 256) 235
    have hsg : IntKind.u32.signed = false := rfl
    have hmx : IntKind.u32.max = 4294967295 := by decide
    go_enter Tryz.func149, Tryz.ntmps149
    go_wp2_with (first
      | (go_at_call 173; refine (table _).mono ?_; rintro e w1 ⟨rfl, hb1⟩; have HB1 := Aside0.mk hb1; clear hb1)
      | (refine wpList_store_row rfl 235 (.tmp 5) (.tmp 9) rfl w1.heap.size (tabv 256) rfl rfl 235 (tabv 0) (heap_alloc_new w1 _) (by rw [tabv_size]; kernel_rfl) (by rw [tabv_size, tabv_size]) (tabv_one 256) ?_))
    go_loop [6, 14] (fun v6 v14 => ∃ i : Nat, i ≤ l1.length ∧ v14 = .int .i64 i ∧ v6 = .int .u32 ((CrcMath.run (~~~ (BitVec.ofInt 32 a0)) (l1.take i)).toNat : Int)) (fun _ v14 => l1.length - (intOf v14).toNat)
    case atStart => exact ⟨0, by omega, rfl, by rw [not_eq]; rfl⟩
    case round =>
      obtain ⟨i, hi, rfl, rfl⟩ := hrel
      have hl := HL.out
      clear hrow hz
      by_cases hlt : i < l1.length
      · obtain ⟨ad, e1, hx⟩ := Kd.at_int HR.out (i : Int) (by omega) (by omega)
        cases e1
        have hx1 := (HB1.out.cell (World.block_lt_of_cell? w _ hx)).trans hx
        have hx2 := (World.cell?_alloc_lt w1 (.cells (tabv 256) 235) _ (World.block_lt_of_cell? w1 _ hx1)).trans hx1
        obtain ⟨cc, hcc⟩ : ∃ cc, cc = rd l1 (i : Int) := ⟨_, rfl⟩
        have hbc : 0 ≤ cc ∧ cc ≤ 255 := by
          rw [hcc]; unfold rd
          rw [Int.toNat_natCast, List.getD_eq_getElem?_getD, List.getElem?_eq_getElem hlt]
          exact HBY.out _ (List.getElem_mem hlt)
        have hst : CrcMath.run (~~~ (BitVec.ofInt 32 a0)) (l1.take (i + 1)) = CrcMath.step (CrcMath.run (~~~ (BitVec.ofInt 32 a0)) (l1.take i)) cc := by
          rw [List.take_succ_eq_append_getElem hlt, CrcMath.run_append]
          have : cc = l1[i] := by rw [hcc]; unfold rd; rw [Int.toNat_natCast, List.getD_eq_getElem?_getD, List.getElem?_eq_getElem hlt]; rfl
          rw [this]; rfl
        rw [← hcc, Int.toNat_natCast] at hx2
        clear hx hx1 hcc
        have HST := Aside0.mk hst
        have HBC := Aside0.mk hbc
        clear hst hbc
        generalize CrcMath.run (~~~ (BitVec.ofInt 32 a0)) (l1.take i) = x at HST ⊢
        have hid := idx_eq x cc
        have hil := idx_lt x cc
        have htb : (tabv 256)[idx x cc]? = some (.int .u32 (ent (idx x cc))) := by rw [tabv_get 256 _ hil, if_pos hil]
        go_wp2_with fail
        go_roundw
        case rel => exact ⟨i + 1, by omega, by go_num, by rw [step_eq x cc HBC.out.1 HBC.out.2, HST.out]⟩
        case measure => simp [intOf]; omega
      · have hin : i = l1.length := by omega
        have HIN := Aside0.mk hin
        clear hin
        go_wp2_with fail
        go_ret
        refine ⟨?_, (below_alloc HB1.out _)⟩
        rw [not_eq, ofInt_toNat, HIN.out, List.take_length, ← HE.out]
        rfl
  · rw [if_neg hb] at h; cases h
end Go.Proofs.YtgljebaiakhbfaaGreat.Own
