/- What this text proves: what was put is got again, whatever stands behind it, and a state is decoded as it was encoded; conditions: none beyond the statement's own. -/
import Derived.Test.YteojopdcmdipaaaQCodecBackx9
import Derived.Test.YteojopdcmdipaaaCodecPlain
import Derived.OpenShut
namespace Go.Proofs.Yteojopdcmdipaaa.Pure
open Go.RowKit Go.Proofs.Yteojopdcmdipaaa.QCodecBack Go.Proofs.YteojopdcmdipaaaW.PrintWords Go.Proofs.YteojopdcmdipaaaW.PrintLast Go.Proofs.YteojopdcmdipaaaW.PrintMore
/-! ### Numbers: bits -/
theorem wraps_u64 (n : Int) (h0 : 0 ≤ n) (h1 : n < 2 ^ 64) : IntKind.u64.wrap n = n := by
  have : IntKind.u64.wrap n = n % 18446744073709551616 := by simp [IntKind.wrap, IntKind.bits, IntKind.signed]
  rw [this]; omega
theorem wrap_u64 (n : Int) : IntKind.u64.wrap n = n % 18446744073709551616 := by simp [IntKind.wrap, IntKind.bits, IntKind.signed]
theorem bits_or_comm (k : IntKind) (x y : Int) : Go.bits .or k x y = Go.bits .or k y x := by
  unfold Go.bits; simp only; rw [BitVec.or_comm]
theorem or128 (x : Int) : Go.bits .or .u8 (x % 256) 128 = x % 128 + 128 := by
  have : ∀ c : Fin 256, Go.bits .or .u8 ((c.val : Nat) : Int) 128 = ((c.val : Nat) : Int) % 128 + 128 := by decide +kernel
  have h2 := this ⟨(x % 256).toNat, by omega⟩
  simp only at h2
  rw [show (((x % 256).toNat : Nat) : Int) = x % 256 by omega] at h2
  rw [h2]; omega
theorem and127 (c : Int) (h0 : 0 ≤ c) (h1 : c ≤ 255) : Go.bits .and .u8 c 127 = c % 128 := by
  have := Go.bits_mask .u8 8 (by decide) Go.wraps_u8 7 (by decide) c h0 (by omega)
  simpa using this
theorem and1 (u : Int) (h0 : 0 ≤ u) (h1 : u < 18446744073709551616) : Go.bits .and .u64 u 1 = u % 2 := by
  have := Go.bits_mask .u64 64 (by decide) wraps_u64 1 (by decide) u h0 (by omega)
  simpa using this
theorem or_shl (u c i : Nat) (hi : i ≤ 63) (hu : u < 2 ^ i) (hc : c * 2 ^ i < 2 ^ 64) : Go.bits .or .u64 (u : Int) (shl .u64 (c : Int) (i : Int)) = ((u + c * 2 ^ i : Nat) : Int) := by
  have e : shl .u64 (c : Int) (i : Int) = ((c * 2 ^ i : Nat) : Int) := by
    unfold shl
    rw [show min ((i : Int)).toNat IntKind.u64.bits = i by simp only [Int.toNat_natCast]; exact Nat.min_eq_left (by show i ≤ 64; omega)]
    rw [show ((c : Int) * 2 ^ i) = ((c * 2 ^ i : Nat) : Int) by push_cast; rfl]
    exact wraps_u64 _ (by omega) (by exact_mod_cast hc)
  have h2 : (2 : Nat) ^ i ≤ 2 ^ 63 := Nat.pow_le_pow_right (by decide) hi
  rw [e, bits_or_comm, Go.bits_join .u64 64 (by decide) wraps_u64 i _ _ (by omega) (by exact_mod_cast Nat.mul_mod_left c (2 ^ i)) (by exact_mod_cast hc) (by omega) (by exact_mod_cast hu) (by omega)]
  push_cast; omega
theorem xor_u64 (x y : Int) : Go.bits .xor .u64 x y = ((BitVec.ofInt 64 x ^^^ BitVec.ofInt 64 y).toNat : Int) := by
  have e : Go.bits .xor .u64 x y = IntKind.u64.wrap ((BitVec.ofInt 64 x ^^^ BitVec.ofInt 64 y).toNat : Int) := rfl
  have := (BitVec.ofInt 64 x ^^^ BitVec.ofInt 64 y).isLt
  rw [e, wrap_u64]; omega
theorem xor_i64 (x y : Int) : Go.bits .xor .i64 x y = (((BitVec.ofInt 64 x ^^^ BitVec.ofInt 64 y).toNat : Int) + 9223372036854775808) % 18446744073709551616 - 9223372036854775808 := by
  have e : Go.bits .xor .i64 x y = IntKind.i64.wrap ((BitVec.ofInt 64 x ^^^ BitVec.ofInt 64 y).toNat : Int) := rfl
  rw [e, Go.IntKind.wrap_i64]
theorem xor_ones (n : Int) : Go.bits .xor .u64 n 18446744073709551615 = 18446744073709551615 - n % 18446744073709551616 := by
  rw [xor_u64, show BitVec.ofInt 64 18446744073709551615 = BitVec.allOnes 64 by decide, BitVec.xor_allOnes, BitVec.toNat_not, BitVec.toNat_ofInt]
  omega
theorem xor_zero (n : Int) : Go.bits .xor .u64 n 0 = n % 18446744073709551616 := by
  rw [xor_u64, show BitVec.ofInt 64 0 = 0#64 by decide, BitVec.xor_zero, BitVec.toNat_ofInt]
  omega
theorem xor_ones_i (n : Int) (h : NumPlain.I64 n) : Go.bits .xor .i64 n (-1) = -n - 1 := by
  unfold NumPlain.I64 at h
  rw [xor_i64, show BitVec.ofInt 64 (-1) = BitVec.allOnes 64 by decide, BitVec.xor_allOnes, BitVec.toNat_not, BitVec.toNat_ofInt]
  omega
theorem xor_zero_i (n : Int) (h : NumPlain.I64 n) : Go.bits .xor .i64 n 0 = n := by
  unfold NumPlain.I64 at h
  rw [xor_i64, show BitVec.ofInt 64 0 = 0#64 by decide, BitVec.xor_zero, BitVec.toNat_ofInt]
  omega
theorem i64_of {a : Int} (h : (Lit.int .i64 a).wf = true) : NumPlain.I64 a := Go.bounds_i64 h
/-! ### Put -/
open NumPlain in
theorem groups_l0 (u : Nat) : ∀ (k : Nat) (x : List Int), (gr u).length ≤ k → x.length + (gr u).length ≤ 140737488355328 → num_groups.l0 k x (u : Int) = some (x ++ gr u) := by
  refine gr_ind (C := fun u => ∀ (k : Nat) (x : List Int), (gr u).length ≤ k → x.length + (gr u).length ≤ 140737488355328 → num_groups.l0 k x (u : Int) = some (x ++ gr u)) (fun u h => ?_) (fun u h ih => ?_) u
  · intro k x hk hx
    rw [gr_small h] at hk hx ⊢
    simp only [List.length_singleton] at hk hx
    obtain ⟨k, rfl⟩ : ∃ m, k = m + 1 := ⟨k - 1, by omega⟩
    simp only [num_groups.l0]
    rw [if_neg (by omega), if_pos (by omega), show (u : Int) % 256 = u by omega]
  · intro k x hk hx
    rw [gr_large h] at hk hx ⊢
    simp only [List.length_cons] at hk hx
    obtain ⟨k, rfl⟩ : ∃ m, k = m + 1 := ⟨k - 1, by omega⟩
    simp only [num_groups.l0]
    rw [if_pos (by omega), if_pos (by omega), or128, show (u : Int) / 128 = ((u / 128 : Nat) : Int) by omega,
      ih k _ (by omega) (by simp; omega), List.append_assoc]
    rw [show (u : Int) % 128 + 128 = ((u % 128 + 128 : Nat) : Int) by omega]
    rfl
open NumPlain in
theorem put_eq (k : Nat) (l : List Int) (n : Int) (hk : 12 ≤ k) (hl : l.length + 12 ≤ 140737488355328) : num_Put.f k l n = some (l ++ pt n) := by
  have hp := pt_len n
  unfold num_Put.f
  unfold pt at hp ⊢
  by_cases h0 : n < 0
  · rw [if_pos h0, if_neg (by omega), List.append_nil]
  · rw [if_neg h0]
    by_cases h1 : n ≥ 4611686018427387904
    · rw [if_pos h1, if_neg (by omega), List.append_nil]
    · rw [if_pos (by omega)] at hp
      rw [if_neg h1, if_pos (by omega), wraps_u64 _ (by omega) (by omega)]
      unfold num_groups.f
      obtain ⟨u, rfl⟩ := Int.eq_ofNat_of_zero_le (show 0 ≤ n by omega)
      simp only [Int.toNat_natCast] at hp ⊢
      rw [groups_l0 u k l (by omega) (by omega)]
      rfl
/-! ### Zig, Zag -/
open NumPlain in
theorem zig_eq (n : Int) (h : I64 n) : num_Zig.f n = some ((zig n : Nat) : Int) := by
  unfold I64 at h
  unfold num_Zig.f zig
  by_cases h0 : 0 ≤ n
  · rw [if_pos h0, show n / 9223372036854775808 = 0 by omega, wraps_u64 0 (by omega) (by omega), xor_zero, wraps_u64 n h0 (by omega), wrap_u64]
    congr 1; omega
  · rw [if_neg h0, show n / 9223372036854775808 = -1 by omega, show IntKind.u64.wrap (-1) = 18446744073709551615 by rw [wrap_u64]; omega, xor_ones, wrap_u64, wrap_u64]
    congr 1; omega
open NumPlain in
theorem zag_eq (u : Nat) (h : u < 2 ^ 64) : num_Zag.f (u : Int) = some (zag u) := by
  unfold num_Zag.f zag
  rw [and1 _ (by omega) (by omega)]
  have e : wrap64 ((u : Int) / 2) = ((u / 2 : Nat) : Int) := by unfold wrap64; omega
  have hi : I64 ((u / 2 : Nat) : Int) := by unfold I64; omega
  by_cases h0 : u % 2 = 0
  · rw [if_pos h0, show wrap64 (-(wrap64 ((u : Int) % 2))) = 0 by unfold wrap64; omega, e, xor_zero_i _ hi]
  · rw [if_neg h0, show wrap64 (-(wrap64 ((u : Int) % 2))) = -1 by unfold wrap64; omega, e, xor_ones_i _ hi]
/-! ### Strings of bytes -/
theorem str_list (l : List Int) : (strOfNums l).toList = l.map fun n => UInt8.ofNat n.toNat := by rw [ByteArray.toList_eq]; rfl
theorem u8_inj {a b : Int} (ha : 0 ≤ a ∧ a ≤ 255) (hb : 0 ≤ b ∧ b ≤ 255) (h : UInt8.ofNat a.toNat = UInt8.ofNat b.toNat) : a = b := by
  have := congrArg UInt8.toNat h
  simp only [UInt8.toNat_ofNat'] at this
  omega
theorem map_inj : ∀ {a b : List Int}, NumPlain.Bytes a → NumPlain.Bytes b → (a.map fun n => UInt8.ofNat n.toNat) = (b.map fun n => UInt8.ofNat n.toNat) → a = b
  | [], [], _, _, _ => rfl
  | [], _ :: _, _, _, h => by simp at h
  | _ :: _, [], _, _, h => by simp at h
  | x :: a, y :: b, ha, hb, h => by
    simp only [List.map_cons, List.cons.injEq] at h
    rw [u8_inj ha.head hb.head h.1, map_inj ha.tail hb.tail h.2]
theorem str_inj {a b : List Int} (ha : NumPlain.Bytes a) (hb : NumPlain.Bytes b) : (strOfNums a).toList = (strOfNums b).toList ↔ a = b := by
  constructor
  · intro h; rw [str_list, str_list] at h; exact map_inj ha hb h
  · intro h; rw [h]
theorem str_extract (l : List Int) (n : Nat) : ((strOfNums l).extract 0 n).toList = (strOfNums (l.take n)).toList := by
  rw [ByteArray.toList_eq, ByteArray.toList_eq, ByteArray.data_extract, Array.toList_extract]
  simp [strOfNums, List.extract_eq_take_drop]
theorem bytes_take {l : List Int} (h : NumPlain.Bytes l) (n : Nat) : NumPlain.Bytes (l.take n) := fun c hc => h c (List.mem_of_mem_take hc)
theorem bytes_app {a b : List Int} (ha : NumPlain.Bytes a) (hb : NumPlain.Bytes b) : NumPlain.Bytes (a ++ b) := fun c hc => by
  rcases List.mem_append.1 hc with h | h
  · exact ha c h
  · exact hb c h
theorem bytes_of {l : List Int} (h : ∀ x ∈ l, (Lit.int .u8 x).wf = true) : NumPlain.Bytes l := fun c hc => Go.bounds_u8 (h c hc)
open NumPlain in
theorem putS_eq (k : Nat) (l : List Int) (n : Int) (h : I64 n) (hk : 12 ≤ k) (hl : l.length + 12 ≤ 140737488355328) : num_PutSigned.f k l n = some (l ++ pS n) := by
  have hp := pS_len h
  unfold num_PutSigned.f num_groups.f
  rw [zig_eq n h]
  simp only [Option.bind_some]
  unfold pS at hp ⊢
  rw [groups_l0 _ k l (by omega) (by omega)]
  try rfl
/-! ### read -/
theorem rd_at (l : List Int) (i : Nat) (c : Int) (r : List Int) (h : l.drop i = c :: r) : rd l (i : Int) = c ∧ i < l.length ∧ l.drop (i + 1) = r := by
  have hi : i < l.length := by
    rcases Nat.lt_or_ge i l.length with h1 | h1
    · exact h1
    · rw [List.drop_eq_nil_of_le h1] at h; cases h
  rw [List.drop_eq_getElem_cons hi] at h
  injection h with h1 h2
  refine ⟨?_, hi, h2⟩
  unfold rd
  rw [Int.toNat_natCast, List.getD_eq_getElem?_getD, List.getElem?_eq_getElem hi]
  exact h1
theorem bytes_drop {l : List Int} (h : NumPlain.Bytes l) (i : Nat) : NumPlain.Bytes (l.drop i) := fun c hc => h c (List.mem_of_mem_drop hc)
theorem wrap64_small (n : Nat) (h : n < 9223372036854775808) : wrap64 (n : Int) = n := by unfold wrap64; omega
def rdOut (u i : Nat) (o : Option (Nat × Nat)) : Int × Int := match o with
  | some (v, m) => (((u + v * 2 ^ (7 * i) : Nat) : Int), ((i + m : Nat) : Int))
  | none => (0, 0)
open NumPlain in
theorem read_l0 (l : List Int) (hb : Bytes l) : ∀ (n i u k : Nat), i + n = 10 → 3 * n + 1 ≤ k → u < 2 ^ (7 * i) → num_read.l0 k l (u : Int) (mn (l.length : Int) 10) (i : Int) = some (rdOut u i (rdg n (l.drop i))) := by
  intro n
  induction n with
  | zero =>
    intro i u k hi hk hu
    obtain ⟨k, rfl⟩ : ∃ m, k = m + 1 := ⟨k - 1, by omega⟩
    simp only [num_read.l0]
    rw [if_neg (by unfold mn; split <;> omega)]
    rfl
  | succ n ih =>
    intro i u k hi hk hu
    obtain ⟨k, rfl⟩ : ∃ m, k = m + 1 := ⟨k - 1, by omega⟩
    simp only [num_read.l0]
    cases hd : l.drop i with
    | nil =>
      have : l.length ≤ i := by
        rcases Nat.lt_or_ge i l.length with h1 | h1
        · rw [List.drop_eq_getElem_cons h1] at hd; cases hd
        · exact h1
      rw [if_neg (by unfold mn; split <;> omega)]
      simp [rdg, rdOut]
    | cons c r =>
      obtain ⟨h1, h2, h3⟩ := rd_at l i c r hd
      have hc : 0 ≤ c ∧ c ≤ 255 := (hd ▸ bytes_drop hb i).head
      have hw : wrap64 (7 * (i : Int)) = ((7 * i : Nat) : Int) := by rw [show (7 * (i : Int)) = ((7 * i : Nat) : Int) by omega]; exact wrap64_small _ (by omega)
      rw [if_pos (by unfold mn; split <;> omega), if_pos (by omega), if_pos (by omega), h1, hw, if_pos (by omega), and127 c hc.1 hc.2, wraps_u64 _ (by omega) (by omega)]
      have hj : ∀ (x4 : Int) (b : Bool) (k : Nat), b = decide (n = 0 ∧ c > 1) → 3 * n + 3 ≤ k → (b = false → x4 = ((u + (c.toNat % 128) * 2 ^ (7 * i) : Nat) : Int)) → num_read.j1 k l x4 (i : Int) c (mn (l.length : Int) 10) (i : Int) b = some (rdOut u i (rdg (n + 1) (c :: r))) := by
        intro x4 b k hb1 hk hx
        obtain ⟨k, rfl⟩ : ∃ m, k = m + 1 := ⟨k - 1, by omega⟩
        simp only [num_read.j1, rdg]
        cases b with
        | true =>
          rw [if_pos rfl]
          have : n = 0 ∧ c > 1 := by simpa using hb1.symm
          rw [if_pos this]; rfl
        | false =>
          have hx := hx rfl
          have hn : ¬ (n = 0 ∧ c > 1) := by simpa using hb1.symm
          rw [if_neg (by simp), if_neg hn]
          have hj2 : ∀ (b : Bool) (k : Nat), b = decide (c = 0 ∧ n ≠ 9) → 3 * n + 2 ≤ k → num_read.j2 k l x4 (i : Int) c (mn (l.length : Int) 10) (i : Int) b = some (rdOut u i (if c = 0 ∧ n ≠ 9 then none else if c < 128 then some (c.toNat, 1) else match rdg n r with
              | some (v, m) => some (c.toNat % 128 + 128 * v, m + 1)
              | none => none)) := by
            intro b k hb2 hk
            obtain ⟨k, rfl⟩ : ∃ m, k = m + 1 := ⟨k - 1, by omega⟩
            simp only [num_read.j2]
            cases b with
            | true =>
              have : c = 0 ∧ n ≠ 9 := by simpa using hb2.symm
              rw [if_pos rfl, if_pos this]; rfl
            | false =>
              have hn2 : ¬ (c = 0 ∧ n ≠ 9) := by simpa using hb2.symm
              rw [if_neg (by simp), if_neg hn2]
              by_cases hlt : c < 128
              · rw [if_pos hlt, if_pos hlt, hx, show (i : Int) + 1 = ((i + 1 : Nat) : Int) by omega, wrap64_small _ (by omega)]
                simp only [rdOut]
                rw [Nat.mod_eq_of_lt (show c.toNat < 128 by omega)]
              · rw [if_neg hlt, if_neg hlt, show (i : Int) + 1 = ((i + 1 : Nat) : Int) by omega, wrap64_small _ (by omega), hx]
                have hp : 2 ^ (7 * (i + 1)) = 2 ^ (7 * i) * 128 := by rw [show 7 * (i + 1) = 7 * i + 7 by omega, Nat.pow_add]
                have hm : (c.toNat % 128) * 2 ^ (7 * i) ≤ 127 * 2 ^ (7 * i) := Nat.mul_le_mul_right _ (by omega)
                rw [ih (i + 1) _ k (by omega) (by omega) (by rw [hp]; omega), h3]
                cases rdg n r with
                | none => rfl
                | some p =>
                  obtain ⟨v, m⟩ := p
                  simp only [rdOut, Option.some.injEq, Prod.mk.injEq]
                  refine ⟨?_, by omega⟩
                  rw [hp]
                  congr 1
                  rw [Nat.add_mul, Nat.add_assoc]
                  congr 1
                  congr 1
                  rw [Nat.mul_comm (2 ^ (7 * i)) 128, ← Nat.mul_assoc, Nat.mul_comm v 128]
          by_cases hc0 : c = 0
          · rw [if_pos hc0]
            refine hj2 _ k ?_ (by omega)
            simp only [hc0, true_and, decide_eq_decide]
            omega
          · rw [if_neg hc0]
            refine hj2 _ k ?_ (by omega)
            simp [hc0]
      have hx : ¬ (n = 0 ∧ c > 1) → Go.bits .or .u64 (u : Int) (shl .u64 (c % 128) ((7 * i : Nat) : Int)) = ((u + (c.toNat % 128) * 2 ^ (7 * i) : Nat) : Int) := by
        intro hn
        rw [show c % 128 = ((c.toNat % 128 : Nat) : Int) by omega]
        refine or_shl u _ _ (by omega) hu ?_
        rcases Nat.lt_or_ge i 9 with h9 | h9
        · have hp : 2 ^ (7 * i) ≤ 2 ^ 56 := Nat.pow_le_pow_right (by decide) (by omega)
          calc (c.toNat % 128) * 2 ^ (7 * i) ≤ 127 * 2 ^ 56 := Nat.mul_le_mul (by omega) hp
            _ < 2 ^ 64 := by decide
        · have : i = 9 := by omega
          subst this
          have : c.toNat % 128 ≤ 1 := by omega
          calc (c.toNat % 128) * 2 ^ (7 * 9) ≤ 1 * 2 ^ 63 := Nat.mul_le_mul_right _ this
            _ < 2 ^ 64 := by decide
      by_cases hi9 : i = 9
      · rw [if_pos (by omega)]
        refine hj _ _ k ?_ (by omega) (fun h => hx ?_)
        · rw [decide_eq_decide]; omega
        · have : ¬ c > 1 := by simpa using h
          omega
      · rw [if_neg (by omega)]
        refine hj _ _ k ?_ (by omega) (fun _ => hx (by omega))
        symm; rw [decide_eq_false_iff_not]; omega
open NumPlain in
theorem read_eq (l : List Int) (hb : Bytes l) (k : Nat) (hk : 31 ≤ k) : num_read.f k l = some (((rdv l).1 : Int), ((rdv l).2 : Int)) := by
  unfold num_read.f
  have := read_l0 l hb 10 0 0 k (by omega) (by omega) (by decide)
  simp only [List.drop_zero] at this
  rw [show ((0 : Nat) : Int) = 0 from rfl] at this
  rw [this]
  unfold rdv
  cases rdg 10 l with
  | none => rfl
  | some p => obtain ⟨v, m⟩ := p; simp [rdOut]
open NumPlain in
theorem get_eq (l : List Int) (hb : Bytes l) (k : Nat) (hk : 31 ≤ k) : num_Get.f k l = some (gt l) := by
  unfold num_Get.f
  rw [read_eq l hb k hk]
  simp only [Option.bind_some]
  unfold gt
  by_cases h : (rdv l).1 < 4611686018427387904
  · rw [if_neg (by omega), if_pos h, wrap64_small _ (by omega)]
  · rw [if_pos (by omega), if_neg h]
/-! ### The rest of what is got, and the reference -/
open NumPlain in
theorem getS_eq (l : List Int) (hb : Bytes l) (k : Nat) (hk : 31 ≤ k) : num_GetSigned.f k l = some (gS l) := by
  unfold num_GetSigned.f
  rw [read_eq l hb k hk]
  simp only [Option.bind_some]
  unfold gS
  by_cases h : (rdv l).2 = 0
  · rw [if_pos (by omega), if_pos h]
  · rw [if_neg (by omega), if_neg h, zag_eq _ (rdv_lt l hb).1]
    rfl
/-! ### Operations and states that may be -/
theorem rd_nth (l : List Int) (i : Nat) (h : i < l.length) : rd l (i : Int) = l[i] := by unfold rd; rw [Int.toNat_natCast, List.getD_eq_getElem?_getD, List.getElem?_eq_getElem h]; rfl
theorem cut_eq (n : Int) : objs_cut.f n = some (CodecPlain.cutP n) := by
  unfold objs_cut.f CodecPlain.cutP
  congr 1
  unfold mx mn
  repeat' split
  all_goals omega
theorem fits_eq (c a b : Int) : objs_Fits.f c a b = some (CodecPlain.fitsB c a b) := by
  unfold objs_Fits.f CodecPlain.fitsB
  by_cases h0 : 0 ≤ c
  · rw [if_pos h0, decide_eq_true h0]
    by_cases h1 : c ≤ 10
    · rw [if_pos h1, decide_eq_true h1, cut_eq, Option.bind_some]
      by_cases h2 : a = CodecPlain.cutP a
      · rw [if_pos h2, decide_eq_true h2, cut_eq, Option.bind_some]; rw [Bool.true_and, Bool.true_and, Bool.true_and]; rfl
      · rw [if_neg h2, decide_eq_false h2]; simp
    · rw [if_neg h1, decide_eq_false h1]; simp
  · rw [if_neg h0, decide_eq_false h0]; simp
open CodecPlain in
theorem pairs_l0 (l : List Int) (hl : l.length ≤ 1000000) (least : Int) : ∀ (n i k : Nat) (last : Int), i ≤ l.length → l.length - i ≤ n → n + 1 ≤ k → objs_pairs.l0 k l least last (i : Int) = some (prs least last (l.drop i) && decide ((l.length : Int) % 2 = 0) && decide ((l.length : Int) ≤ 128)) := by
  intro n
  induction n using Nat.strongRecOn with
  | ind n ih =>
    intro i k last hil hn hk
    obtain ⟨k, rfl⟩ : ∃ m, k = m + 1 := ⟨k - 1, by omega⟩
    have hw1 : wrap64 ((i : Int) + 1) = ((i + 1 : Nat) : Int) := by unfold wrap64; omega
    have hw2 : wrap64 ((i : Int) + 2) = ((i + 2 : Nat) : Int) := by unfold wrap64; omega
    simp only [objs_pairs.l0]
    rw [hw1, hw2]
    clear hw1 hw2
    by_cases hlt : i + 1 < l.length
    · have hd : l.drop i = l[i] :: l[i + 1] :: l.drop (i + 2) := by rw [List.drop_eq_getElem_cons (by omega), List.drop_eq_getElem_cons (by omega)]
      rw [if_pos (by omega), if_pos (by omega), if_pos (by omega), rd_nth l i (by omega), rd_nth l (i + 1) (by omega), hd, prs]
      by_cases h1 : l[i] ≤ last
      · rw [if_pos h1, decide_eq_false (show ¬ last < l[i] by omega)]; simp
      · rw [if_neg h1, decide_eq_true (show last < l[i] by omega)]
        by_cases h2 : l[i] > 255
        · rw [if_pos h2, decide_eq_false (show ¬ l[i] ≤ 255 by omega)]; simp
        · rw [if_neg h2, decide_eq_true (show l[i] ≤ 255 by omega)]
          rw [if_pos (show (0 : Int) ≤ ((i + 1 : Nat) : Int) by omega)]
          by_cases h3 : l[i + 1] < least
          · rw [if_pos h3, decide_eq_false (show ¬ least ≤ l[i + 1] by omega)]; simp
          · rw [if_neg h3, decide_eq_true (show least ≤ l[i + 1] by omega)]
            by_cases h4 : l[i + 1] > 1099511627776
            · rw [if_pos h4, decide_eq_false (show ¬ l[i + 1] ≤ 1099511627776 by omega)]; simp
            · rw [if_neg h4, decide_eq_true (show l[i + 1] ≤ 1099511627776 by omega), ih (n - 2) (by omega) (i + 2) k _ (by omega) (by omega) (by omega)]
              simp
    · have hp : prs least last (l.drop i) = true := by
        rcases Nat.lt_or_ge i l.length with h | h
        · have : l.drop i = [l[i]] := by rw [List.drop_eq_getElem_cons h, List.drop_eq_nil_of_le (by omega)]
          rw [this]; rfl
        · rw [List.drop_eq_nil_of_le h]; rfl
      rw [if_neg (by omega), hp]
      by_cases h : (l.length : Int) % 2 = 0
      · rw [if_pos h, decide_eq_true h]; simp
      · rw [if_neg h, decide_eq_false h]; simp
open CodecPlain in
theorem pairs_eq (l : List Int) (hl : l.length ≤ 1000000) (least : Int) (k : Nat) (hk : l.length + 1 ≤ k) : objs_pairs.f k l least = some (pairsB l least) := by
  unfold objs_pairs.f pairsB
  exact pairs_l0 l hl least l.length 0 k (-1) (by omega) (by omega) hk
open CodecPlain in
theorem any_eq (l : List Int) : (!(l.any fun n => n != cutI n)) = inB l := by
  unfold inB
  induction l with
  | nil => rfl
  | cons x l ih =>
    rw [List.any_cons, List.all_cons, ← ih, Bool.not_or]
    congr 1
    show (!(x != cutP x)) = decide (x = cutP x)
    by_cases h : x = cutP x
    · rw [decide_eq_true h, ← h]; simp
    · rw [decide_eq_false h]; simpa using h
open CodecPlain in
theorem may_j0 (b : Bool) (kind : Int) (l : List Int) (sealed : Bool) (eng : Int) (hl : l.length ≤ 1000000) (k : Nat) (hk : l.length + 1 ≤ k) : objs_May.j0 (k + 3) b kind l sealed eng = some (!b && (if kind = 0 ∨ kind = 1 then decide ((l.length : Int) = 1) && inB l else if kind = 2 ∨ kind = 3 then decide ((l.length : Int) ≤ 64) && inB l else if kind = 4 then pairsB l (-1099511627776) else if kind = 5 then pairsB l 0 else false)) := by
  have hsome : ∀ (c : Prop) [Decidable c] (x : Bool), (if c then some x else some false) = some (decide c && x) := by intro c _ x; by_cases h : c <;> simp [h]
  simp only [objs_May.j0]
  cases b with
  | true => rw [if_pos rfl]; rfl
  | false =>
    rw [if_neg (by decide)]
    unfold slices_ContainsFunc_int_int.f
    simp only [Option.bind_some, any_eq]
    have j2 : ∀ b2 : Bool, b2 = decide (kind = 2 ∨ kind = 3) → objs_May.j2 (k + 1) (inB l) kind b2 kind l sealed eng = some (if kind = 2 ∨ kind = 3 then decide ((l.length : Int) ≤ 64) && inB l else if kind = 4 then pairsB l (-1099511627776) else if kind = 5 then pairsB l 0 else false) := by
      intro b2 e
      simp only [objs_May.j2]
      subst e
      by_cases h : kind = 2 ∨ kind = 3
      · rw [decide_eq_true h, if_pos rfl, if_pos h]; exact hsome _ _
      · rw [decide_eq_false h, if_neg (by decide), if_neg h]
        by_cases h4 : kind = 4
        · rw [if_pos h4, if_pos h4, pairs_eq l hl _ k hk]; rfl
        · rw [if_neg h4, if_neg h4]
          by_cases h5 : kind = 5
          · rw [if_pos h5, if_pos h5, pairs_eq l hl _ k hk]; rfl
          · rw [if_neg h5, if_neg h5]
    have j1 : ∀ b1 : Bool, b1 = decide (kind = 0 ∨ kind = 1) → objs_May.j1 (k + 2) (inB l) kind b1 kind l sealed eng = some (if kind = 0 ∨ kind = 1 then decide ((l.length : Int) = 1) && inB l else if kind = 2 ∨ kind = 3 then decide ((l.length : Int) ≤ 64) && inB l else if kind = 4 then pairsB l (-1099511627776) else if kind = 5 then pairsB l 0 else false) := by
      intro b1 e
      simp only [objs_May.j1]
      subst e
      by_cases h : kind = 0 ∨ kind = 1
      · rw [decide_eq_true h, if_pos rfl, if_pos h]; exact hsome _ _
      · rw [decide_eq_false h, if_neg (by decide), if_neg h]
        by_cases h2 : kind = 2
        · rw [if_pos h2]; refine j2 _ ?_; simp [h2]
        · rw [if_neg h2]; refine j2 _ ?_; rw [show (kind == 3) = decide (kind = 3) from rfl, decide_eq_decide]; omega
    by_cases h0 : kind = 0
    · rw [if_pos h0, j1 _ (by simp [h0])]; rfl
    · rw [if_neg h0, j1 _ (by rw [show (kind == 1) = decide (kind = 1) from rfl, decide_eq_decide]; omega)]; rfl
open CodecPlain in
theorem may_eq (kind : Int) (l : List Int) (sealed : Bool) (eng : Int) (hl : l.length ≤ 1000000) (k : Nat) (hk : l.length + 4 ≤ k) : objs_May.f k kind l sealed eng = some (mayB kind l sealed eng) := by
  obtain ⟨k, rfl⟩ : ∃ m, k = m + 3 := ⟨k - 3, by omega⟩
  unfold objs_May.f mayB
  by_cases h0 : eng < 0
  · rw [if_pos h0, may_j0 _ _ _ _ _ hl k (by omega), decide_eq_false (show ¬ 0 ≤ eng by omega)]; simp
  · rw [if_neg h0, decide_eq_true (show 0 ≤ eng by omega)]
    by_cases h1 : eng ≥ 3
    · rw [if_pos h1, may_j0 _ _ _ _ _ hl k (by omega), decide_eq_false (show ¬ eng < 3 by omega)]; simp
    · rw [if_neg h1, decide_eq_true (show eng < 3 by omega)]
      cases sealed with
      | true => rw [if_pos rfl, may_j0 _ _ _ _ _ hl k (by omega)]; simp
      | false =>
        rw [if_neg (by decide), may_j0 _ _ _ _ _ hl k (by omega)]
        by_cases h2 : eng = 0
        · simp [h2]
        · rw [decide_eq_false h2, show (eng != 0) = true by simpa using h2]; simp
/-! ### Put -/
theorem bytes_i64 {l : List Int} (h : ∀ x ∈ l, (Lit.int .i64 x).wf = true) : ∀ x ∈ l, NumPlain.I64 x := fun x hx => i64_of (h x hx)
open NumPlain CodecPlain in
theorem putOp_eq (k : Nat) (l : List Int) (c a b : Int) (ha : I64 a) (hb : I64 b) (hk : 12 ≤ k) (hl : l.length + 50 ≤ 140737488355328) : codec_PutOp.f k l c a b = some (if fitsB c a b = true then (l ++ opB c a b, 0) else (l, 1)) := by
  have h1 := pt_len c; have h2 := pS_len ha
  unfold codec_PutOp.f
  rw [fits_eq, Option.bind_some]
  by_cases h : fitsB c a b = true
  · rw [if_pos h, if_pos h, put_eq k l c hk (by omega), Option.bind_some, putS_eq k _ a ha hk (by rw [List.length_append]; omega), Option.bind_some, putS_eq k _ b hb hk (by rw [List.length_append, List.length_append]; omega), Option.bind_some]
    simp [opB]
  · rw [if_neg h, if_neg h]
open NumPlain CodecPlain in
theorem enc_l0 (l : List Int) (hi : ∀ x ∈ l, I64 x) (hl : l.length ≤ 1000000) : ∀ (n i k : Nat) (x : List Int), i + n = l.length → n + 13 ≤ k → x.length + 10 * n + 12 ≤ 140737488355328 → codec_EncodeState.l0 k x l (l.length : Int) (i : Int) = some (x ++ numsB (l.drop i), 0) := by
  intro n
  induction n with
  | zero =>
    intro i k x hn hk hx
    obtain ⟨k, rfl⟩ : ∃ m, k = m + 1 := ⟨k - 1, by omega⟩
    simp only [codec_EncodeState.l0]
    rw [if_neg (by omega), List.drop_eq_nil_of_le (by omega)]
    simp [numsB]
  | succ n ih =>
    intro i k x hn hk hx
    obtain ⟨k, rfl⟩ : ∃ m, k = m + 1 := ⟨k - 1, by omega⟩
    have hlt : i < l.length := by omega
    have hw : wrap64 ((i : Int) + 1) = ((i + 1 : Nat) : Int) := by unfold wrap64; omega
    have hxi := hi l[i] (List.getElem_mem hlt)
    have hp := pS_len hxi
    simp only [codec_EncodeState.l0]
    rw [hw]
    clear hw
    rw [if_pos (by omega), if_pos (by omega), if_pos (by omega), rd_nth l i hlt, putS_eq k x _ hxi (by omega) (by omega), Option.bind_some, ih (i + 1) k _ (by omega) (by omega) (by rw [List.length_append]; omega), List.drop_eq_getElem_cons hlt, numsB_cons, List.append_assoc]
open NumPlain CodecPlain in
theorem enc_eq (kind : Int) (l : List Int) (sealed : Bool) (eng : Int) (hi : ∀ x ∈ l, I64 x) (hl : l.length ≤ 1000000) (k : Nat) (hk : l.length + 13 ≤ k) : codec_EncodeState.f k kind l sealed eng = some (encB kind l sealed eng) := by
  unfold codec_EncodeState.f encB
  rw [may_eq kind l sealed eng hl k (by omega), Option.bind_some]
  by_cases h : mayB kind l sealed eng = true
  · obtain ⟨h1, h2, h3, h4, h5, h6⟩ := mayB_facts h
    have g1 := pt_len kind; have g2 := pt_len (sealB sealed eng); have g3 := pt_len (l.length : Int)
    have hs : codec_seal.f kind l sealed eng = some (sealB sealed eng) := by
      unfold codec_seal.f sealB
      cases sealed with
      | true => rw [if_pos rfl, if_pos rfl, show wrap64 (eng + 1) = eng + 1 by unfold wrap64; omega]
      | false => rfl
    rw [if_pos h, if_pos h, put_eq k [] kind (by omega) (by simp), Option.bind_some, hs, Option.bind_some, put_eq k _ _ (by omega) (by rw [List.nil_append]; omega), Option.bind_some, put_eq k _ _ (by omega) (by rw [List.nil_append, List.length_append]; omega), Option.bind_some]
    have := enc_l0 l hi hl l.length 0 k ([] ++ pt kind ++ pt (sealB sealed eng) ++ pt (l.length : Int)) (by omega) (by omega) (by rw [List.nil_append, List.length_append, List.length_append]; omega)
    rw [show ((0 : Nat) : Int) = 0 from rfl] at this
    rw [this, List.drop_zero, List.nil_append]
    rfl
  · rw [if_neg h, if_neg h]
open NumPlain CodecPlain in
theorem awake_eq (k : Nat) (hk : 20 ≤ k) : ferrymanlaw05_awake.f k = some true := by
  have e1 : fitsB 1 3 0 = true := by decide
  have e2 : mayB 0 [5] false 0 = true := by decide
  have e3 : opB 1 3 0 = [1, 6, 0] := by
    unfold opB pt pS
    rw [if_pos (by omega), show (1 : Int).toNat = 1 from rfl, show zig 3 = 6 from rfl, show zig 0 = 0 from rfl, gr_small (by omega), gr_small (by omega), gr_small (by omega)]
    rfl
  have e4 : stB 0 (sealB false 0) [5] = [0, 0, 1, 10] := by
    unfold stB numsB pt pS
    simp only [List.flatMap_cons, List.flatMap_nil, List.append_nil, List.length_singleton]
    rw [show sealB false 0 = 0 from rfl, if_pos (by omega), if_pos (by omega), show (0 : Int).toNat = 0 from rfl, show ((1 : Nat) : Int).toNat = 1 from rfl, show zig 5 = 10 from rfl, gr_small (by omega), gr_small (by omega), gr_small (by omega)]
    rfl
  unfold ferrymanlaw05_awake.f
  rw [putOp_eq k [] 1 3 0 (by unfold I64; omega) (by unfold I64; omega) (by omega) (by simp), if_pos e1, Option.bind_some, enc_eq 0 [5] false 0 (by intro x hx; simp at hx; unfold I64; omega) (by simp) k (by simp; omega), encB, if_pos e2, Option.bind_some, List.nil_append, e3, e4, if_pos rfl, if_pos rfl, str_list, if_pos (by decide), str_list]
  decide
/-! ### Get -/
open NumPlain in
theorem gt_bd (l : List Int) (hb : Bytes l) : 0 ≤ (gt l).2 ∧ (gt l).2 ≤ l.length := by
  rcases gt_once l hb with ⟨h, _⟩ | ⟨h1, h2, _⟩ <;> omega
open NumPlain in
theorem gS_bd (l : List Int) (hb : Bytes l) : 0 ≤ (gS l).2 ∧ (gS l).2 ≤ l.length := by
  rcases gS_once l hb with ⟨h, _⟩ | ⟨h1, h2, _⟩ <;> omega
open NumPlain CodecPlain in
theorem getOp_eq (l : List Int) (hb : Bytes l) (k : Nat) (hk : 31 ≤ k) : codec_GetOp.f k l = some (gOp l) := by
  have b1 := gt_bd l hb
  have hb1 := bytes_drop hb (gt l).2.toNat
  have b2 := gS_bd _ hb1
  have hb2 := bytes_drop hb1 (gS (l.drop (gt l).2.toNat)).2.toNat
  have b3 := gS_bd _ hb2
  unfold codec_GetOp.f gOp
  rw [get_eq l hb k hk, Option.bind_some, if_pos b1.1, if_pos b1.2, getS_eq _ hb1 k hk, Option.bind_some, if_pos b2.1, if_pos b2.2, getS_eq _ hb2 k hk, Option.bind_some, if_pos b3.1, if_pos b3.2, fits_eq, Option.bind_some]
open NumPlain CodecPlain in
theorem nums_false (k : Nat) (hk : 31 ≤ k) : ∀ (n : Nat) (l xs : List Int), Bytes l → ∃ ys r, codec_DecodeState.nums k n l false xs = some (ys, false, r)
  | 0, l, xs, _ => ⟨xs, l, rfl⟩
  | n + 1, l, xs, hb => by
    have b := gS_bd l hb
    rw [codec_DecodeState.nums, getS_eq l hb k hk, Option.bind_some, if_pos b.1, if_pos b.2, Bool.false_and]
    exact nums_false k hk n _ _ (bytes_drop hb _)
open NumPlain CodecPlain in
theorem nums_eq (k : Nat) (hk : 31 ≤ k) : ∀ (n : Nat) (l xs : List Int), Bytes l → (∃ ys r, gN n l = some (ys, r) ∧ codec_DecodeState.nums k n l true xs = some (xs ++ ys, true, r)) ∨ (gN n l = none ∧ ∃ ys r, codec_DecodeState.nums k n l true xs = some (ys, false, r))
  | 0, l, xs, _ => .inl ⟨[], l, rfl, by rw [List.append_nil]; rfl⟩
  | n + 1, l, xs, hb => by
    have b := gS_bd l hb
    rw [codec_DecodeState.nums, getS_eq l hb k hk, Option.bind_some, if_pos b.1, if_pos b.2, Bool.true_and, gN]
    by_cases h0 : (gS l).2 = 0
    · rw [if_pos h0, decide_eq_false (show ¬ (gS l).2 > 0 by omega)]
      exact .inr ⟨rfl, nums_false k hk n _ _ (bytes_drop hb _)⟩
    · rw [if_neg h0, decide_eq_true (show (gS l).2 > 0 by omega)]
      rcases nums_eq k hk n (l.drop (gS l).2.toNat) (xs ++ [(gS l).1]) (bytes_drop hb _) with ⟨ys, r, h1, h2⟩ | ⟨h1, h2⟩
      · refine .inl ⟨(gS l).1 :: ys, r, by rw [h1], ?_⟩
        rw [h2, List.append_assoc]; rfl
      · exact .inr ⟨by rw [h1], h2⟩
open NumPlain CodecPlain in
theorem dec_eq (l : List Int) (hb : Bytes l) (k : Nat) (hk : 200 ≤ k) : codec_DecodeState.f k l = some (decB l) := by
  have b1 := gt_bd l hb
  have hb1 := bytes_drop hb (gt l).2.toNat
  have b2 := gt_bd _ hb1
  have hb2 := bytes_drop hb1 (gt (l.drop (gt l).2.toNat)).2.toNat
  have b3 := gt_bd _ hb2
  have hb3 := bytes_drop hb2 (gt ((l.drop (gt l).2.toNat).drop (gt (l.drop (gt l).2.toNat)).2.toNat)).2.toNat
  unfold codec_DecodeState.f decB
  rw [gSt_eq]
  rw [get_eq l hb k (by omega), Option.bind_some, if_pos b1.1, if_pos b1.2, get_eq _ hb1 k (by omega), Option.bind_some, if_pos b2.1, if_pos b2.2, get_eq _ hb2 k (by omega), Option.bind_some, if_pos b3.1, if_pos b3.2]
  have q0 : 0 ≤ (gt (l.drop (gt l).2.toNat)).1 := by rcases gt_once _ hb1 with ⟨_, h⟩ | ⟨_, _, h, _⟩ <;> omega
  generalize gt l = p at *
  generalize gt (l.drop p.2.toNat) = q at *
  generalize gt ((l.drop p.2.toNat).drop q.2.toNat) = s at *
  generalize ((l.drop p.2.toNat).drop q.2.toNat).drop s.2.toNat = l3 at *
  by_cases h : p.2 > 0 ∧ q.2 > 0 ∧ s.2 > 0 ∧ q.1 ≤ 3 ∧ s.1 ≤ 128
  · rw [if_pos h]
    simp only [if_pos h]
    have hw : wrap64 (q.1 - 1) = q.1 - 1 := by unfold wrap64; omega
    rw [hw]
    clear hw
    rcases nums_eq k (by omega) s.1.toNat l3 [] hb3 with ⟨ys, r, h1, h2⟩ | ⟨h1, ys, r, h2⟩
    · obtain ⟨_, h3, _⟩ := gN_once _ hb3 h1
      rw [h2, Option.bind_some, h1, List.nil_append]
      by_cases hr : r.length = 0
      · rw [if_pos ⟨rfl, hr⟩, may_eq _ ys _ _ (by omega) k (by omega), Option.bind_some]
        simp only [if_pos hr]
      · rw [if_neg (fun e => hr e.2)]
        simp only [if_neg hr]
    · rw [h2, Option.bind_some, h1, if_neg (fun e => Bool.noConfusion e.1)]
  · rw [if_neg h]
    simp only [if_neg h]
theorem same_l0 (a : Int) (l : List Int) (s : Bool) (t : Int) (hl : l.length ≤ 1000000) : ∀ (n i k : Nat), i + n = l.length → n + 1 ≤ k → ferrymanref04_Same.l0 k (i : Int) a l s t a l s t = some true := by
  intro n
  induction n with
  | zero =>
    intro i k hn hk
    obtain ⟨k, rfl⟩ : ∃ m, k = m + 1 := ⟨k - 1, by omega⟩
    simp only [ferrymanref04_Same.l0]
    rw [if_neg (by omega)]
  | succ n ih =>
    intro i k hn hk
    obtain ⟨k, rfl⟩ : ∃ m, k = m + 1 := ⟨k - 1, by omega⟩
    have hw : wrap64 ((i : Int) + 1) = ((i + 1 : Nat) : Int) := by unfold wrap64; omega
    simp only [ferrymanref04_Same.l0]
    rw [hw]
    clear hw
    rw [if_pos (by omega), if_pos (by omega), if_pos (by omega), if_pos trivial, ih (i + 1) k (by omega) (by omega)]
theorem same_refl (a : Int) (l : List Int) (s : Bool) (t : Int) (hl : l.length ≤ 1000000) (k : Nat) (hk : l.length + 2 ≤ k) : ferrymanref04_Same.f k a l s t a l s t = some true := by
  obtain ⟨k, rfl⟩ : ∃ m, k = m + 1 := ⟨k - 1, by omega⟩
  unfold ferrymanref04_Same.f
  rw [if_pos rfl, if_neg (by simp), if_pos rfl]
  simp only [ferrymanref04_Same.j0]
  rw [if_neg (by simp)]
  exact same_l0 a l s t hl l.length 0 k (by omega) (by omega)
open NumPlain CodecPlain in
theorem back_j1 (kind : Int) (l : List Int) (sealed : Bool) (eng : Int) (hl : ∀ x ∈ l, I64 x) (h3 : l.length ≤ 300) : ferrymanlaw05_CodecBack.j1 1001 false kind l sealed eng = some true := by
  simp only [ferrymanlaw05_CodecBack.j1]
  rw [if_neg (by decide), enc_eq kind l sealed eng hl (by omega) 1000 (by omega), Option.bind_some, encB]
  by_cases h : mayB kind l sealed eng = true
  · rw [if_pos h, dec_eq _ (stB_bytes _ _ _) 1000 (by omega), dec_enc hl h, Option.bind_some, if_pos rfl, same_refl kind l sealed eng (by omega) 1000 (by omega), Option.bind_some, if_pos rfl]
  · have hb : Bytes ([] : List Int) := fun c hc => by cases hc
    rw [if_neg h, dec_eq _ hb 1000 (by omega), Option.bind_some, if_neg (by decide)]
    rfl
open NumPlain CodecPlain in
theorem CodecBack : ∀ (a0_0 a0_1 a0_2 a1_0 : Int) (l1_1 : List Int) (a1_2 : Bool) (a1_3 : Int) (l2 : List Int), (Lit.int .i64 a0_0).wf = true → (Lit.int .i64 a0_1).wf = true → (Lit.int .i64 a0_2).wf = true → (Lit.int .i64 a1_0).wf = true → l1_1.length ≤ maxLen → (∀ x ∈ l1_1, (Lit.int .i64 x).wf = true) → (Lit.int .i64 a1_3).wf = true → l2.length ≤ maxLen → (∀ x ∈ l2, (Lit.int .u8 x).wf = true) → ∃ k, ferrymanlaw05_CodecBack.f k a0_0 a0_1 a0_2 a1_0 l1_1 a1_2 a1_3 l2 = some true := by
  intro c a b kind l sealed eng more _ ha hb _ _ hl _ _ hm
  have hl := bytes_i64 hl
  have ha := i64_of ha
  have hb := i64_of hb
  have hm := bytes_of hm
  refine ⟨1003, ?_⟩
  unfold ferrymanlaw05_CodecBack.f ferrymanlaw04_Few.f
  rw [awake_eq 1003 (by omega), Option.bind_some, Option.bind_some, if_pos rfl]
  have j0 : ∀ bb : Bool, bb = true ∨ (l.length ≤ 300 ∧ more.length ≤ 100) → ferrymanlaw05_CodecBack.j0 1003 more true bb c a b kind l sealed eng = some true := by
    intro bb hbb
    simp only [ferrymanlaw05_CodecBack.j0]
    by_cases e : bb = true
    · rw [if_pos e]
    · obtain ⟨h3, h4⟩ := hbb.resolve_left e
      have hp := opB_len (c := c) ha hb
      rw [if_neg e, putOp_eq 1002 [] c a b ha hb (by omega) (by simp), Option.bind_some]
      have j1 : ∀ b2 : Bool, b2 = false → ferrymanlaw05_CodecBack.j1 1002 b2 kind l sealed eng = some true := by
        intro b2 e2
        rw [e2]
        have := back_j1 kind l sealed eng hl h3
        exact (ferrymanlaw05_CodecBack.mono_l 1001).2 _ _ _ _ _ _ this
      by_cases h : fitsB c a b = true
      · rw [if_pos h]
        simp only [List.nil_append, List.length_nil, Nat.zero_add, Option.bind_some]
        rw [if_pos (by omega), if_pos (by omega), getOp_eq _ (bytes_join (opB_bytes c a b) hm) 1002 (by omega), gOp_opB h, Option.bind_some, if_pos rfl]
        simp only [beq_self_eq_true, Bool.not_true, Bool.or_false, Bool.false_eq_true, if_false, if_true]
        exact j1 _ rfl
      · rw [if_neg h]
        simp only [List.nil_append, List.length_nil, Nat.zero_add, Option.bind_some]
        rw [if_pos (by omega), if_pos (by omega), getOp_eq _ hm 1002 (by omega), Option.bind_some, if_neg (by decide)]
        exact j1 _ rfl
  by_cases h3 : (l.length : Int) ≤ 300
  · rw [if_pos (decide_eq_true h3)]
    by_cases h4 : (more.length : Int) > 100
    · exact j0 _ (.inl (decide_eq_true h4))
    · exact j0 _ (.inr ⟨by omega, by omega⟩)
  · rw [if_neg (by rw [decide_eq_true_eq]; exact h3)]
    exact j0 _ (.inl rfl)
end Go.Proofs.Yteojopdcmdipaaa.Pure
