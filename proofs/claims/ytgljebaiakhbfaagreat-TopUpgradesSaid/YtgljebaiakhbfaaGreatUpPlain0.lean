/- What this text proves: what numbers, operations, records and blocks are as bytes, and that they are read back; no condition. -/
import Derived.Test.YtgljebaiakhbfaaGreatQTopUpgradesyD0
import Derived.Test.YtgljebaiakhbfaaGreatCodecPlain
import Derived.OpenShut
namespace Go.Proofs.YtgljebaiakhbfaaGreat.Pure
open Go.RowKit Go.Proofs.YtgljebaiakhbfaaGreat.QTopUpgrades Go.Proofs.YtgljebaiakhbfaaGreatW.PrintWords Go.Proofs.YtgljebaiakhbfaaGreatW.PrintLast Go.Proofs.YtgljebaiakhbfaaGreatW.PrintMore
set_option linter.unusedVariables false
set_option linter.unusedSimpArgs false
/-! ### Numbers: bits -/
theorem wraps_u64 (n : Int) (h0 : 0 ≤ n) (h1 : n < 2 ^ 64) : IntKind.u64.wrap n = n := by
  have : IntKind.u64.wrap n = n % 18446744073709551616 := by simp [IntKind.wrap, IntKind.bits, IntKind.signed]
  rw [this]; omega
theorem wrap_u64 (n : Int) : IntKind.u64.wrap n = n % 18446744073709551616 := by simp [IntKind.wrap, IntKind.bits, IntKind.signed]
theorem bits_or_comm (k : IntKind) (x y : Int) : Go.bits .or k x y = Go.bits .or k y x := by
  unfold Go.bits; simp only; rw [BitVec.or_comm]
theorem or128 (x : Int) : Go.bits .or .u8 (x % 256) 128 = x % 128 + 128 := by
  have : ∀ c : Fin 256, Go.bits .or .u8 ((c.val : Nat) : Int) 128 = ((c.val : Nat) : Int) % 128 + 128 := by decide +kernel
  have h2 := this ⟨(x % 256).toNat, by omega⟩
  simp only at h2
  rw [show (((x % 256).toNat : Nat) : Int) = x % 256 by omega] at h2
  rw [h2]; omega
theorem and127 (c : Int) (h0 : 0 ≤ c) (h1 : c ≤ 255) : Go.bits .and .u8 c 127 = c % 128 := by
  have := Go.bits_mask .u8 8 (by decide) Go.wraps_u8 7 (by decide) c h0 (by omega)
  simpa using this
theorem and1 (u : Int) (h0 : 0 ≤ u) (h1 : u < 18446744073709551616) : Go.bits .and .u64 u 1 = u % 2 := by
  have := Go.bits_mask .u64 64 (by decide) wraps_u64 1 (by decide) u h0 (by omega)
  simpa using this
theorem or_shl (u c i : Nat) (hi : i ≤ 63) (hu : u < 2 ^ i) (hc : c * 2 ^ i < 2 ^ 64) : Go.bits .or .u64 (u : Int) (shl .u64 (c : Int) (i : Int)) = ((u + c * 2 ^ i : Nat) : Int) := by
  have e : shl .u64 (c : Int) (i : Int) = ((c * 2 ^ i : Nat) : Int) := by
    unfold shl
    rw [show min ((i : Int)).toNat IntKind.u64.bits = i by simp only [Int.toNat_natCast]; exact Nat.min_eq_left (by show i ≤ 64; omega)]
    rw [show ((c : Int) * 2 ^ i) = ((c * 2 ^ i : Nat) : Int) by push_cast; rfl]
    exact wraps_u64 _ (by omega) (by exact_mod_cast hc)
  have h2 : (2 : Nat) ^ i ≤ 2 ^ 63 := Nat.pow_le_pow_right (by decide) hi
  rw [e, bits_or_comm, Go.bits_join .u64 64 (by decide) wraps_u64 i _ _ (by omega) (by exact_mod_cast Nat.mul_mod_left c (2 ^ i)) (by exact_mod_cast hc) (by omega) (by exact_mod_cast hu) (by omega)]
  push_cast; omega
theorem xor_u64 (x y : Int) : Go.bits .xor .u64 x y = ((BitVec.ofInt 64 x ^^^ BitVec.ofInt 64 y).toNat : Int) := by
  have e : Go.bits .xor .u64 x y = IntKind.u64.wrap ((BitVec.ofInt 64 x ^^^ BitVec.ofInt 64 y).toNat : Int) := rfl
  have := (BitVec.ofInt 64 x ^^^ BitVec.ofInt 64 y).isLt
  rw [e, wrap_u64]; omega
theorem xor_i64 (x y : Int) : Go.bits .xor .i64 x y = (((BitVec.ofInt 64 x ^^^ BitVec.ofInt 64 y).toNat : Int) + 9223372036854775808) % 18446744073709551616 - 9223372036854775808 := by
  have e : Go.bits .xor .i64 x y = IntKind.i64.wrap ((BitVec.ofInt 64 x ^^^ BitVec.ofInt 64 y).toNat : Int) := rfl
  rw [e, Go.IntKind.wrap_i64]
theorem xor_ones (n : Int) : Go.bits .xor .u64 n 18446744073709551615 = 18446744073709551615 - n % 18446744073709551616 := by
  rw [xor_u64, show BitVec.ofInt 64 18446744073709551615 = BitVec.allOnes 64 by decide, BitVec.xor_allOnes, BitVec.toNat_not, BitVec.toNat_ofInt]
  omega
theorem xor_zero (n : Int) : Go.bits .xor .u64 n 0 = n % 18446744073709551616 := by
  rw [xor_u64, show BitVec.ofInt 64 0 = 0#64 by decide, BitVec.xor_zero, BitVec.toNat_ofInt]
  omega
theorem xor_ones_i (n : Int) (h : NumPlain.I64 n) : Go.bits .xor .i64 n (-1) = -n - 1 := by
  unfold NumPlain.I64 at h
  rw [xor_i64, show BitVec.ofInt 64 (-1) = BitVec.allOnes 64 by decide, BitVec.xor_allOnes, BitVec.toNat_not, BitVec.toNat_ofInt]
  omega
theorem xor_zero_i (n : Int) (h : NumPlain.I64 n) : Go.bits .xor .i64 n 0 = n := by
  unfold NumPlain.I64 at h
  rw [xor_i64, show BitVec.ofInt 64 0 = 0#64 by decide, BitVec.xor_zero, BitVec.toNat_ofInt]
  omega
/-! ### Put -/
open NumPlain in
theorem groups_l0 (u : Nat) : ∀ (k : Nat) (x : List Int), (gr u).length ≤ k → x.length + (gr u).length ≤ 140737488355328 → num_groups.l0 k x (u : Int) = some (x ++ gr u) := by
  refine gr_ind (C := fun u => ∀ (k : Nat) (x : List Int), (gr u).length ≤ k → x.length + (gr u).length ≤ 140737488355328 → num_groups.l0 k x (u : Int) = some (x ++ gr u)) (fun u h => ?_) (fun u h ih => ?_) u
  · intro k x hk hx
    rw [gr_small h] at hk hx ⊢
    simp only [List.length_singleton] at hk hx
    obtain ⟨k, rfl⟩ : ∃ m, k = m + 1 := ⟨k - 1, by omega⟩
    simp only [num_groups.l0]
    rw [if_neg (by omega), if_pos (by omega), show (u : Int) % 256 = u by omega]
  · intro k x hk hx
    rw [gr_large h] at hk hx ⊢
    simp only [List.length_cons] at hk hx
    obtain ⟨k, rfl⟩ : ∃ m, k = m + 1 := ⟨k - 1, by omega⟩
    simp only [num_groups.l0]
    rw [if_pos (by omega), if_pos (by omega), or128, show (u : Int) / 128 = ((u / 128 : Nat) : Int) by omega,
      ih k _ (by omega) (by simp; omega), List.append_assoc]
    rw [show (u : Int) % 128 + 128 = ((u % 128 + 128 : Nat) : Int) by omega]
    rfl
open NumPlain in
theorem put_eq (k : Nat) (l : List Int) (n : Int) (hk : 12 ≤ k) (hl : l.length + 12 ≤ 140737488355328) : num_Put.f k l n = some (l ++ pt n) := by
  have hp := pt_len n
  unfold num_Put.f
  unfold pt at hp ⊢
  by_cases h0 : n < 0
  · rw [if_pos h0, if_neg (by omega), List.append_nil]
  · rw [if_neg h0]
    by_cases h1 : n ≥ 4611686018427387904
    · rw [if_pos h1, if_neg (by omega), List.append_nil]
    · rw [if_pos (by omega)] at hp
      rw [if_neg h1, if_pos (by omega), wraps_u64 _ (by omega) (by omega)]
      unfold num_groups.f
      obtain ⟨u, rfl⟩ := Int.eq_ofNat_of_zero_le (show 0 ≤ n by omega)
      simp only [Int.toNat_natCast] at hp ⊢
      rw [groups_l0 u k l (by omega) (by omega)]
      rfl
/-! ### Zig, Zag -/
open NumPlain in
theorem zig_eq (n : Int) (h : I64 n) : num_Zig.f n = some ((zig n : Nat) : Int) := by
  unfold I64 at h
  unfold num_Zig.f zig
  by_cases h0 : 0 ≤ n
  · rw [if_pos h0, show n / 9223372036854775808 = 0 by omega, wraps_u64 0 (by omega) (by omega), xor_zero, wraps_u64 n h0 (by omega), wrap_u64]
    congr 1; omega
  · rw [if_neg h0, show n / 9223372036854775808 = -1 by omega, show IntKind.u64.wrap (-1) = 18446744073709551615 by rw [wrap_u64]; omega, xor_ones, wrap_u64, wrap_u64]
    congr 1; omega
open NumPlain in
theorem zag_eq (u : Nat) (h : u < 2 ^ 64) : num_Zag.f (u : Int) = some (zag u) := by
  unfold num_Zag.f zag
  rw [and1 _ (by omega) (by omega)]
  have e : wrap64 ((u : Int) / 2) = ((u / 2 : Nat) : Int) := by unfold wrap64; omega
  have hi : I64 ((u / 2 : Nat) : Int) := by unfold I64; omega
  by_cases h0 : u % 2 = 0
  · rw [if_pos h0, show wrap64 (-(wrap64 ((u : Int) % 2))) = 0 by unfold wrap64; omega, e, xor_zero_i _ hi]
  · rw [if_neg h0, show wrap64 (-(wrap64 ((u : Int) % 2))) = -1 by unfold wrap64; omega, e, xor_ones_i _ hi]
/-! ### Strings of bytes -/
open NumPlain in
theorem putS_eq (k : Nat) (l : List Int) (n : Int) (h : I64 n) (hk : 12 ≤ k) (hl : l.length + 12 ≤ 140737488355328) : num_PutSigned.f k l n = some (l ++ pS n) := by
  have hp := pS_len h
  unfold num_PutSigned.f num_groups.f
  rw [zig_eq n h]
  simp only [Option.bind_some]
  unfold pS at hp ⊢
  rw [groups_l0 _ k l (by omega) (by omega)]
  try rfl
/-! ### Fixed -/
theorem shr_at (x i : Nat) (hi : i ≤ 8) : shr .u64 (x : Int) ((8 * i : Nat) : Int) = ((x / 256 ^ i : Nat) : Int) := by
  unfold shr
  rw [show min (((8 * i : Nat) : Int)).toNat IntKind.u64.bits = 8 * i by simp only [Int.toNat_natCast]; exact Nat.min_eq_left (by show 8 * i ≤ 64; omega)]
  rw [show (256 : Nat) ^ i = 2 ^ (8 * i) by rw [Nat.pow_mul]]
  push_cast
  rfl
open NumPlain in
theorem fixed_l0 (x size : Nat) (hs : size ≤ 8) : ∀ (s i k : Nat) (acc : List Int), i + s = size → s + 1 ≤ k → acc.length + s ≤ 140737488355328 → num_fixed.l0 k (x : Int) acc (size : Int) (i : Int) = some (acc ++ fx s (x / 256 ^ i)) := by
  intro s
  induction s with
  | zero =>
    intro i k acc hi hk hl
    obtain ⟨k, rfl⟩ : ∃ m, k = m + 1 := ⟨k - 1, by omega⟩
    simp only [num_fixed.l0]
    rw [if_neg (by omega)]
    simp [fx]
  | succ s ih =>
    intro i k acc hi hk hl
    obtain ⟨k, rfl⟩ : ∃ m, k = m + 1 := ⟨k - 1, by omega⟩
    simp only [num_fixed.l0]
    have hw : wrap64 (8 * (i : Int)) = ((8 * i : Nat) : Int) := by unfold wrap64; omega
    have hw2 : wrap64 ((i : Int) + 1) = ((i + 1 : Nat) : Int) := by unfold wrap64; omega
    rw [if_pos (by omega), hw, if_pos (by omega), if_pos (by omega), shr_at _ _ (by omega), hw2, ih (i + 1) k _ (by omega) (by omega) (by simp; omega), List.append_assoc]
    simp only [fx, List.singleton_append]
    congr 3
    rw [Nat.div_div_eq_div_mul, Nat.pow_succ]
open NumPlain in
theorem fixed32_eq (n : Int) (h0 : 0 ≤ n) (h1 : n < 4294967296) (k : Nat) (hk : 9 ≤ k) : num_Fixed32.f k n = some (fx 4 n.toNat) := by
  unfold num_Fixed32.f num_fixed.f
  rw [wraps_u64 _ h0 (by omega)]
  have := fixed_l0 n.toNat 4 (by omega) 4 0 k [] (by omega) (by omega) (by simp)
  rw [show ((n.toNat : Nat) : Int) = n by omega] at this
  rw [show ((4 : Nat) : Int) = 4 from rfl, show ((0 : Nat) : Int) = 0 from rfl] at this
  rw [this]
  simp
/-! ### read -/
theorem rd_at (l : List Int) (i : Nat) (c : Int) (r : List Int) (h : l.drop i = c :: r) : rd l (i : Int) = c ∧ i < l.length ∧ l.drop (i + 1) = r := by
  have hi : i < l.length := by
    rcases Nat.lt_or_ge i l.length with h1 | h1
    · exact h1
    · rw [List.drop_eq_nil_of_le h1] at h; cases h
  rw [List.drop_eq_getElem_cons hi] at h
  injection h with h1 h2
  refine ⟨?_, hi, h2⟩
  unfold rd
  rw [Int.toNat_natCast, List.getD_eq_getElem?_getD, List.getElem?_eq_getElem hi]
  exact h1
theorem bytes_drop {l : List Int} (h : NumPlain.Bytes l) (i : Nat) : NumPlain.Bytes (l.drop i) := fun c hc => h c (List.mem_of_mem_drop hc)
theorem wrap64_small (n : Nat) (h : n < 9223372036854775808) : wrap64 (n : Int) = n := by unfold wrap64; omega
def rdOut (u i : Nat) (o : Option (Nat × Nat)) : Int × Int := match o with
  | some (v, m) => (((u + v * 2 ^ (7 * i) : Nat) : Int), ((i + m : Nat) : Int))
  | none => (0, 0)
open NumPlain in
theorem read_l0 (l : List Int) (hb : Bytes l) : ∀ (n i u k : Nat), i + n = 10 → 3 * n + 1 ≤ k → u < 2 ^ (7 * i) → num_read.l0 k l (u : Int) (mn (l.length : Int) 10) (i : Int) = some (rdOut u i (rdg n (l.drop i))) := by
  intro n
  induction n with
  | zero =>
    intro i u k hi hk hu
    obtain ⟨k, rfl⟩ : ∃ m, k = m + 1 := ⟨k - 1, by omega⟩
    simp only [num_read.l0]
    rw [if_neg (by unfold mn; split <;> omega)]
    rfl
  | succ n ih =>
    intro i u k hi hk hu
    obtain ⟨k, rfl⟩ : ∃ m, k = m + 1 := ⟨k - 1, by omega⟩
    simp only [num_read.l0]
    cases hd : l.drop i with
    | nil =>
      have : l.length ≤ i := by
        rcases Nat.lt_or_ge i l.length with h1 | h1
        · rw [List.drop_eq_getElem_cons h1] at hd; cases hd
        · exact h1
      rw [if_neg (by unfold mn; split <;> omega)]
      simp [rdg, rdOut]
    | cons c r =>
      obtain ⟨h1, h2, h3⟩ := rd_at l i c r hd
      have hc : 0 ≤ c ∧ c ≤ 255 := (hd ▸ bytes_drop hb i).head
      have hw : wrap64 (7 * (i : Int)) = ((7 * i : Nat) : Int) := by rw [show (7 * (i : Int)) = ((7 * i : Nat) : Int) by omega]; exact wrap64_small _ (by omega)
      rw [if_pos (by unfold mn; split <;> omega), if_pos (by omega), if_pos (by omega), h1, hw, if_pos (by omega), and127 c hc.1 hc.2, wraps_u64 _ (by omega) (by omega)]
      have hj : ∀ (x4 : Int) (b : Bool) (k : Nat), b = decide (n = 0 ∧ c > 1) → 3 * n + 3 ≤ k → (b = false → x4 = ((u + (c.toNat % 128) * 2 ^ (7 * i) : Nat) : Int)) → num_read.j1 k l x4 (i : Int) c (mn (l.length : Int) 10) (i : Int) b = some (rdOut u i (rdg (n + 1) (c :: r))) := by
        intro x4 b k hb1 hk hx
        obtain ⟨k, rfl⟩ : ∃ m, k = m + 1 := ⟨k - 1, by omega⟩
        simp only [num_read.j1, rdg]
        cases b with
        | true =>
          rw [if_pos rfl]
          have : n = 0 ∧ c > 1 := by simpa using hb1.symm
          rw [if_pos this]; rfl
        | false =>
          have hx := hx rfl
          have hn : ¬ (n = 0 ∧ c > 1) := by simpa using hb1.symm
          rw [if_neg (by simp), if_neg hn]
          have hj2 : ∀ (b : Bool) (k : Nat), b = decide (c = 0 ∧ n ≠ 9) → 3 * n + 2 ≤ k → num_read.j2 k l x4 (i : Int) c (mn (l.length : Int) 10) (i : Int) b = some (rdOut u i (if c = 0 ∧ n ≠ 9 then none else if c < 128 then some (c.toNat, 1) else match rdg n r with
              | some (v, m) => some (c.toNat % 128 + 128 * v, m + 1)
              | none => none)) := by
            intro b k hb2 hk
            obtain ⟨k, rfl⟩ : ∃ m, k = m + 1 := ⟨k - 1, by omega⟩
            simp only [num_read.j2]
            cases b with
            | true =>
              have : c = 0 ∧ n ≠ 9 := by simpa using hb2.symm
              rw [if_pos rfl, if_pos this]; rfl
            | false =>
              have hn2 : ¬ (c = 0 ∧ n ≠ 9) := by simpa using hb2.symm
              rw [if_neg (by simp), if_neg hn2]
              by_cases hlt : c < 128
              · rw [if_pos hlt, if_pos hlt, hx, show (i : Int) + 1 = ((i + 1 : Nat) : Int) by omega, wrap64_small _ (by omega)]
                simp only [rdOut]
                rw [Nat.mod_eq_of_lt (show c.toNat < 128 by omega)]
              · rw [if_neg hlt, if_neg hlt, show (i : Int) + 1 = ((i + 1 : Nat) : Int) by omega, wrap64_small _ (by omega), hx]
                have hp : 2 ^ (7 * (i + 1)) = 2 ^ (7 * i) * 128 := by rw [show 7 * (i + 1) = 7 * i + 7 by omega, Nat.pow_add]
                have hm : (c.toNat % 128) * 2 ^ (7 * i) ≤ 127 * 2 ^ (7 * i) := Nat.mul_le_mul_right _ (by omega)
                rw [ih (i + 1) _ k (by omega) (by omega) (by rw [hp]; omega), h3]
                cases rdg n r with
                | none => rfl
                | some p =>
                  obtain ⟨v, m⟩ := p
                  simp only [rdOut, Option.some.injEq, Prod.mk.injEq]
                  refine ⟨?_, by omega⟩
                  rw [hp]
                  congr 1
                  rw [Nat.add_mul, Nat.add_assoc]
                  congr 1
                  congr 1
                  rw [Nat.mul_comm (2 ^ (7 * i)) 128, ← Nat.mul_assoc, Nat.mul_comm v 128]
          by_cases hc0 : c = 0
          · rw [if_pos hc0]
            refine hj2 _ k ?_ (by omega)
            simp only [hc0, true_and, decide_eq_decide]
            omega
          · rw [if_neg hc0]
            refine hj2 _ k ?_ (by omega)
            simp [hc0]
      have hx : ¬ (n = 0 ∧ c > 1) → Go.bits .or .u64 (u : Int) (shl .u64 (c % 128) ((7 * i : Nat) : Int)) = ((u + (c.toNat % 128) * 2 ^ (7 * i) : Nat) : Int) := by
        intro hn
        rw [show c % 128 = ((c.toNat % 128 : Nat) : Int) by omega]
        refine or_shl u _ _ (by omega) hu ?_
        rcases Nat.lt_or_ge i 9 with h9 | h9
        · have hp : 2 ^ (7 * i) ≤ 2 ^ 56 := Nat.pow_le_pow_right (by decide) (by omega)
          calc (c.toNat % 128) * 2 ^ (7 * i) ≤ 127 * 2 ^ 56 := Nat.mul_le_mul (by omega) hp
            _ < 2 ^ 64 := by decide
        · have : i = 9 := by omega
          subst this
          have : c.toNat % 128 ≤ 1 := by omega
          calc (c.toNat % 128) * 2 ^ (7 * 9) ≤ 1 * 2 ^ 63 := Nat.mul_le_mul_right _ this
            _ < 2 ^ 64 := by decide
      by_cases hi9 : i = 9
      · rw [if_pos (by omega)]
        refine hj _ _ k ?_ (by omega) (fun h => hx ?_)
        · rw [decide_eq_decide]; omega
        · have : ¬ c > 1 := by simpa using h
          omega
      · rw [if_neg (by omega)]
        refine hj _ _ k ?_ (by omega) (fun _ => hx (by omega))
        symm; rw [decide_eq_false_iff_not]; omega
open NumPlain in
theorem read_eq (l : List Int) (hb : Bytes l) (k : Nat) (hk : 31 ≤ k) : num_read.f k l = some (((rdv l).1 : Int), ((rdv l).2 : Int)) := by
  unfold num_read.f
  have := read_l0 l hb 10 0 0 k (by omega) (by omega) (by decide)
  simp only [List.drop_zero] at this
  rw [show ((0 : Nat) : Int) = 0 from rfl] at this
  rw [this]
  unfold rdv
  cases rdg 10 l with
  | none => rfl
  | some p => obtain ⟨v, m⟩ := p; simp [rdOut]
open NumPlain in
theorem get_eq (l : List Int) (hb : Bytes l) (k : Nat) (hk : 31 ≤ k) : num_Get.f k l = some (gt l) := by
  unfold num_Get.f
  rw [read_eq l hb k hk]
  simp only [Option.bind_some]
  unfold gt
  by_cases h : (rdv l).1 < 4611686018427387904
  · rw [if_neg (by omega), if_pos h, wrap64_small _ (by omega)]
  · rw [if_pos (by omega), if_neg h]
/-! ### The rest of what is got, and the reference -/
open NumPlain in
theorem getS_eq (l : List Int) (hb : Bytes l) (k : Nat) (hk : 31 ≤ k) : num_GetSigned.f k l = some (gS l) := by
  unfold num_GetSigned.f
  rw [read_eq l hb k hk]
  simp only [Option.bind_some]
  unfold gS
  by_cases h : (rdv l).2 = 0
  · rw [if_pos (by omega), if_pos h]
  · rw [if_neg (by omega), if_neg h, zag_eq _ (rdv_lt l hb).1]
    rfl
/-! ### Operations and states that may be -/
theorem cut_eq (n : Int) : objs_cut.f n = some (CodecPlain.cutP n) := by
  unfold objs_cut.f CodecPlain.cutP
  congr 1
  unfold mx mn
  repeat' split
  all_goals omega
theorem fits_eq (c a b : Int) : objs_Fits.f c a b = some (CodecPlain.fitsB c a b) := by
  unfold objs_Fits.f CodecPlain.fitsB
  by_cases h0 : 0 ≤ c
  · rw [if_pos h0, decide_eq_true h0]
    by_cases h1 : c ≤ 10
    · rw [if_pos h1, decide_eq_true h1, cut_eq, Option.bind_some]
      by_cases h2 : a = CodecPlain.cutP a
      · rw [if_pos h2, decide_eq_true h2, cut_eq, Option.bind_some]; rw [Bool.true_and, Bool.true_and, Bool.true_and]; rfl
      · rw [if_neg h2, decide_eq_false h2]; simp
    · rw [if_neg h1, decide_eq_false h1]; simp
  · rw [if_neg h0, decide_eq_false h0]; simp
open NumPlain CodecPlain in
theorem putOp_eq (k : Nat) (l : List Int) (c a b : Int) (ha : I64 a) (hb : I64 b) (hk : 12 ≤ k) (hl : l.length + 50 ≤ 140737488355328) : codec_PutOp.f k l c a b = some (if fitsB c a b = true then (l ++ opB c a b, 0) else (l, 1)) := by
  have h1 := pt_len c; have h2 := pS_len ha
  unfold codec_PutOp.f
  rw [fits_eq, Option.bind_some]
  by_cases h : fitsB c a b = true
  · rw [if_pos h, if_pos h, put_eq k l c hk (by omega), Option.bind_some, putS_eq k _ a ha hk (by rw [List.length_append]; omega), Option.bind_some, putS_eq k _ b hb hk (by rw [List.length_append, List.length_append]; omega), Option.bind_some]
    simp [opB]
  · rw [if_neg h, if_neg h]
/-! ### Get -/
open NumPlain in
theorem gt_bd (l : List Int) (hb : Bytes l) : 0 ≤ (gt l).2 ∧ (gt l).2 ≤ l.length := by
  rcases gt_once l hb with ⟨h, _⟩ | ⟨h1, h2, _⟩ <;> omega
open NumPlain in
theorem gS_bd (l : List Int) (hb : Bytes l) : 0 ≤ (gS l).2 ∧ (gS l).2 ≤ l.length := by
  rcases gS_once l hb with ⟨h, _⟩ | ⟨h1, h2, _⟩ <;> omega
open NumPlain CodecPlain in
theorem getOp_eq (l : List Int) (hb : Bytes l) (k : Nat) (hk : 31 ≤ k) : codec_GetOp.f k l = some (gOp l) := by
  have b1 := gt_bd l hb
  have hb1 := bytes_drop hb (gt l).2.toNat
  have b2 := gS_bd _ hb1
  have hb2 := bytes_drop hb1 (gS (l.drop (gt l).2.toNat)).2.toNat
  have b3 := gS_bd _ hb2
  unfold codec_GetOp.f gOp
  rw [get_eq l hb k hk, Option.bind_some, if_pos b1.1, if_pos b1.2, getS_eq _ hb1 k hk, Option.bind_some, if_pos b2.1, if_pos b2.2, getS_eq _ hb2 k hk, Option.bind_some, if_pos b3.1, if_pos b3.2, fits_eq, Option.bind_some]
/-! ### Records -/
open NumPlain CodecPlain MapAid in
def fitsR (x : S62) : Bool := decide (0 ≤ x.f0) && decide (x.f0 < 4611686018427387904) && decide (0 ≤ x.f1) && decide (x.f1 ≤ 64) && decide (0 ≤ x.f2) && decide (x.f2 < 4611686018427387904) && fitsB x.f3.f0 x.f3.f1 x.f3.f2 && decide (-1125899906842624 ≤ x.f4) && decide (x.f4 ≤ 1125899906842624)
theorem fitsR_iff (x : S62) : fitsR x = true ↔ (0 ≤ x.f0 ∧ x.f0 < 4611686018427387904) ∧ (0 ≤ x.f1 ∧ x.f1 ≤ 64) ∧ (0 ≤ x.f2 ∧ x.f2 < 4611686018427387904) ∧ CodecPlain.fitsB x.f3.f0 x.f3.f1 x.f3.f2 = true ∧ (-1125899906842624 ≤ x.f4 ∧ x.f4 ≤ 1125899906842624) := by
  unfold fitsR
  simp only [Bool.and_eq_true, decide_eq_true_eq]
  constructor
  · rintro ⟨⟨⟨⟨⟨⟨⟨⟨a, b⟩, c⟩, d⟩, e⟩, f⟩, g⟩, h⟩, i⟩; exact ⟨⟨a, b⟩, ⟨c, d⟩, ⟨e, f⟩, g, h, i⟩
  · rintro ⟨⟨a, b⟩, ⟨c, d⟩, ⟨e, f⟩, g, h, i⟩; exact ⟨⟨⟨⟨⟨⟨⟨⟨a, b⟩, c⟩, d⟩, e⟩, f⟩, g⟩, h⟩, i⟩
theorem schema_eq (x : S62) : schema_Fits.f x.f0 x.f1 x.f2 x.f3.f0 x.f3.f1 x.f3.f2 x.f4 = some (fitsR x) := by
  unfold schema_Fits.f fitsR
  rw [fits_eq]
  simp only [Option.bind_some]
  by_cases h1 : 0 ≤ x.f0
  · rw [if_pos h1, decide_eq_true h1]
    by_cases h2 : x.f0 < 4611686018427387904
    · rw [if_pos h2, decide_eq_true h2]
      by_cases h3 : 0 ≤ x.f1
      · rw [if_pos h3, decide_eq_true h3]
        by_cases h4 : x.f1 ≤ 64
        · rw [if_pos h4, decide_eq_true h4]
          by_cases h5 : 0 ≤ x.f2
          · rw [if_pos h5, decide_eq_true h5]
            by_cases h6 : x.f2 < 4611686018427387904
            · rw [if_pos h6, decide_eq_true h6]
              cases CodecPlain.fitsB x.f3.f0 x.f3.f1 x.f3.f2 with
              | false => simp
              | true =>
                rw [if_pos rfl]
                by_cases h7 : -1125899906842624 ≤ x.f4
                · rw [if_pos h7, decide_eq_true h7]; simp
                · rw [if_neg h7, decide_eq_false h7]; simp
            · rw [if_neg h6, decide_eq_false h6]; simp
          · rw [if_neg h5, decide_eq_false h5]; simp
        · rw [if_neg h4, decide_eq_false h4]; simp
      · rw [if_neg h3, decide_eq_false h3]; simp
    · rw [if_neg h2, decide_eq_false h2]; simp
  · rw [if_neg h1, decide_eq_false h1]; simp
theorem rdR_nth (l : List S62) (i : Nat) (h : i < l.length) : rd_T62 l (i : Int) = l[i] := by unfold rd_T62; rw [Int.toNat_natCast, List.getD_eq_getElem?_getD, List.getElem?_eq_getElem h]; rfl
def ordB (first : Int) : List S62 → Bool
  | [] => true
  | x :: l => fitsR x && decide (x.f0 = first) && ordB (first + 1) l
def firstR : List S62 → Int
  | [] => 0
  | x :: _ => x.f0
def blkOk (l : List S62) : Bool := decide (1 ≤ l.length) && decide (l.length ≤ 256) && ordB (firstR l) l
theorem firstR_eq (l : List S62) (h : 0 < l.length) : (rd_T62 l 0).f0 = firstR l := by
  rw [show (0 : Int) = ((0 : Nat) : Int) from rfl, rdR_nth l 0 h]
  cases l with
  | nil => simp at h
  | cons x l => rfl
theorem ordB_fits {l : List S62} : ∀ {first : Int}, ordB first l = true → ∀ x ∈ l, fitsR x = true := by
  induction l with
  | nil => intro _ _ x hx; cases hx
  | cons y l ih =>
    intro first h x hx
    unfold ordB at h
    simp only [Bool.and_eq_true, decide_eq_true_eq] at h
    rcases List.mem_cons.1 hx with rfl | hx
    · exact h.1.1
    · exact ih h.2 x hx
theorem blkFits_l0 (l : List S62) (hl : l.length ≤ 1000000) : ∀ (n i k : Nat), i + n = l.length → n + 1 ≤ k → (0 < i → 0 ≤ firstR l ∧ firstR l < 4611686018427387904) → block_Fits.l0 k l l (l.length : Int) (i : Int) = some (ordB (firstR l + i) (l.drop i) && decide (1 ≤ l.length) && decide (l.length ≤ 256)) := by
  intro n
  induction n with
  | zero =>
    intro i k hi hk _
    obtain ⟨k, rfl⟩ : ∃ m, k = m + 1 := ⟨k - 1, by omega⟩
    simp only [block_Fits.l0]
    rw [if_neg (by omega), List.drop_eq_nil_of_le (by omega)]
    by_cases h : (l.length : Int) > 0
    · rw [if_pos h]; simp only [ordB, Bool.true_and]; rw [decide_eq_true (show 1 ≤ l.length by omega), Bool.true_and]; congr 1; rw [decide_eq_decide]; omega
    · rw [if_neg h]; simp only [ordB, Bool.true_and]; rw [decide_eq_false (show ¬ 1 ≤ l.length by omega), Bool.false_and]
  | succ n ih =>
    intro i k hi hk hf
    obtain ⟨k, rfl⟩ : ∃ m, k = m + 1 := ⟨k - 1, by omega⟩
    have hlt : i < l.length := by omega
    simp only [block_Fits.l0]
    rw [if_pos (by omega), if_pos (by omega), if_pos (by omega), rdR_nth l i hlt, schema_eq, Option.bind_some, List.drop_eq_getElem_cons hlt]
    simp only [ordB]
    by_cases h : fitsR l[i] = true
    · have hf0 : 0 ≤ firstR l ∧ firstR l < 4611686018427387904 := by
        rcases Nat.eq_zero_or_pos i with h0 | h0
        · subst h0
          rw [← firstR_eq l hlt, show (0 : Int) = ((0 : Nat) : Int) from rfl, rdR_nth l 0 hlt]
          exact ((fitsR_iff _).1 h).1
        · exact hf h0
      have hw : wrap64 (firstR l + (i : Int)) = firstR l + i := by unfold wrap64; omega
      have hw1 : wrap64 ((i : Int) + 1) = ((i + 1 : Nat) : Int) := by unfold wrap64; omega
      rw [if_pos h, if_pos (by omega), firstR_eq l (by omega), hw, hw1, h, Bool.true_and]
      clear hw hw1
      by_cases he : l[i].f0 = firstR l + i
      · rw [if_pos he, decide_eq_true he, Bool.true_and, ih (i + 1) k (by omega) (by omega) (fun _ => hf0), show firstR l + (i : Int) + 1 = firstR l + ((i + 1 : Nat) : Int) by omega]
      · rw [if_neg he, decide_eq_false he]; simp
    · rw [if_neg h]; simp only [Bool.not_eq_true] at h; rw [h]; simp
theorem blkFits_eq (l : List S62) (hl : l.length ≤ 1000000) (k : Nat) (hk : l.length + 1 ≤ k) : block_Fits.f k l = some (blkOk l) := by
  unfold block_Fits.f
  have h := blkFits_l0 l hl l.length 0 k (by omega) hk (fun h => by omega)
  rw [show ((0 : Nat) : Int) = 0 from rfl, Int.add_zero, List.drop_zero] at h
  rw [h]
  unfold blkOk
  congr 1
  cases decide (l.length ≤ 256) <;> cases decide (1 ≤ l.length) <;> cases ordB (firstR l) l <;> rfl
/-- A record's bytes, where its process's last one had s. -/
def recB (s : Int) (x : S62) : List Int := NumPlain.pt x.f1 ++ NumPlain.pS (x.f2 - s) ++ CodecPlain.opB x.f3.f0 x.f3.f1 x.f3.f2 ++ NumPlain.pS x.f4
def recs : (Int → Int) → List S62 → List Int
  | _, [] => []
  | f, x :: l => recB (f x.f1) x ++ recs (MapAid.upd f x.f1 x.f2) l
def blkB (l : List S62) : List Int := NumPlain.pt (firstR l) ++ NumPlain.pt (l.length : Int) ++ recs (fun _ => 0) l
def Seqs (f : Int → Int) : Prop := ∀ y, 0 ≤ f y ∧ f y < 4611686018427387904
theorem seqs0 : Seqs (fun _ => 0) := fun _ => by simp only; omega
theorem Seqs.upd {f : Int → Int} (h : Seqs f) {x v : Int} (h0 : 0 ≤ v) (h1 : v < 4611686018427387904) : Seqs (MapAid.upd f x v) := fun y => by
  unfold MapAid.upd
  split
  · exact ⟨h0, h1⟩
  · exact h y
theorem recB_bytes (s : Int) (x : S62) : NumPlain.Bytes (recB s x) := CodecPlain.bytes_join (CodecPlain.bytes_join (CodecPlain.bytes_join (NumPlain.pt_bytes _) (NumPlain.pS_bytes _)) (CodecPlain.opB_bytes _ _ _)) (NumPlain.pS_bytes _)
theorem recB_len {s : Int} {x : S62} (h : fitsR x = true) (h0 : 0 ≤ s) (h1 : s < 4611686018427387904) : (recB s x).length ≤ 58 := by
  obtain ⟨_, ⟨a1, a2⟩, ⟨b1, b2⟩, c, ⟨d1, d2⟩⟩ := (fitsR_iff x).1 h
  obtain ⟨i1, i2, _, _⟩ := CodecPlain.fits_i64 c
  have g1 := NumPlain.pt_len x.f1
  have g2 := NumPlain.pS_len (n := x.f2 - s) (by unfold NumPlain.I64; omega)
  have g3 := CodecPlain.opB_len (c := x.f3.f0) i1 i2
  have g4 := NumPlain.pS_len (n := x.f4) (by unfold NumPlain.I64; omega)
  unfold recB
  simp only [List.length_append]
  omega
theorem recs_bytes : ∀ (l : List S62) (f : Int → Int), NumPlain.Bytes (recs f l)
  | [], _ => fun c hc => by cases hc
  | x :: l, f => CodecPlain.bytes_join (recB_bytes _ _) (recs_bytes l _)
theorem recs_len : ∀ (l : List S62) (f : Int → Int), Seqs f → (∀ x ∈ l, fitsR x = true) → (recs f l).length ≤ 58 * l.length
  | [], _, _, _ => Nat.zero_le _
  | x :: l, f, hf, h => by
    have hx := h x List.mem_cons_self
    obtain ⟨_, _, ⟨b1, b2⟩, _⟩ := (fitsR_iff x).1 hx
    have h1 := recB_len hx (hf x.f1).1 (hf x.f1).2
    have h2 := recs_len l (MapAid.upd f x.f1 x.f2) (hf.upd b1 b2) (fun y hy => h y (List.mem_cons_of_mem _ hy))
    simp only [recs, List.length_append, List.length_cons]
    omega
theorem blkB_bytes (l : List S62) : NumPlain.Bytes (blkB l) := CodecPlain.bytes_join (CodecPlain.bytes_join (NumPlain.pt_bytes _) (NumPlain.pt_bytes _)) (recs_bytes _ _)
open NumPlain CodecPlain in
theorem go_eq (k : Nat) (hk : 12 ≤ k) : ∀ (l : List S62) (f : Int → Int) (b : List Int), Seqs f → (∀ x ∈ l, fitsR x = true) → b.length + 58 * l.length + 100 ≤ 140737488355328 → block_Encode.go k l f b = some (b ++ recs f l)
  | [], f, b, _, _, _ => by simp [block_Encode.go, recs]
  | x :: l, f, b, hf, h, hb => by
    have hx := h x List.mem_cons_self
    obtain ⟨⟨_, _⟩, ⟨a1, a2⟩, ⟨b1, b2⟩, c, ⟨d1, d2⟩⟩ := (fitsR_iff x).1 hx
    obtain ⟨i1, i2, _, _⟩ := fits_i64 c
    obtain ⟨f0, f1⟩ := hf x.f1
    have g1 := pt_len x.f1
    have g2 := pS_len (n := x.f2 - f x.f1) (by unfold I64; omega)
    have g3 := opB_len (c := x.f3.f0) i1 i2
    have g4 := pS_len (n := x.f4) (by unfold I64; omega)
    have hw : wrap64 (x.f2 - f x.f1) = x.f2 - f x.f1 := by unfold wrap64; omega
    rw [List.length_cons] at hb
    simp only [block_Encode.go, recs]
    rw [hw]
    clear hw
    rw [if_pos ⟨a1, a2, b1, b2⟩, put_eq k b _ hk (by omega), Option.bind_some, putS_eq k _ _ (by unfold I64; omega) hk (by rw [List.length_append]; omega), Option.bind_some, putOp_eq k _ _ _ _ i1 i2 hk (by simp only [List.length_append]; omega), if_pos c, Option.bind_some, putS_eq k _ _ (by unfold I64; omega) hk (by simp only [List.length_append]; omega), Option.bind_some]
    rw [go_eq k hk l _ _ (hf.upd b1 b2) (fun y hy => h y (List.mem_cons_of_mem _ hy)) (by simp only [List.length_append]; omega)]
    simp [recB]
/-- The answer of block.Encode. -/
def encL (l : List S62) : List Int × Int := if blkOk l = true then (blkB l, 0) else ([], 1)
open NumPlain CodecPlain in
theorem blkEnc_eq (l : List S62) (hl : l.length ≤ 1000000) (k : Nat) (hk : l.length + 12 ≤ k) : block_Encode.f k l = some (encL l) := by
  unfold block_Encode.f encL
  rw [blkFits_eq l hl k (by omega), Option.bind_some]
  by_cases h : blkOk l = true
  · rw [if_pos h, if_pos h]
    unfold blkOk at h
    simp only [Bool.and_eq_true, decide_eq_true_eq] at h
    obtain ⟨⟨h1, h2⟩, h3⟩ := h
    have g1 := pt_len (firstR l); have g2 := pt_len (l.length : Int)
    rw [if_pos (by omega), firstR_eq l (by omega), put_eq k [] _ (by omega) (by simp), Option.bind_some, put_eq k _ _ (by omega) (by simp; omega), Option.bind_some, go_eq k (by omega) l _ _ seqs0 (ordB_fits h3) (by simp only [List.length_append, List.nil_append]; omega)]
    simp [blkB]
  · rw [if_neg h, if_neg h]
/-! ### What two blocks have in common -/
theorem blkOk_facts {l : List S62} (h : blkOk l = true) : 1 ≤ l.length ∧ l.length ≤ 256 ∧ ordB (firstR l) l = true ∧ 0 ≤ firstR l ∧ firstR l < 4611686018427387904 := by
  unfold blkOk at h
  simp only [Bool.and_eq_true, decide_eq_true_eq] at h
  obtain ⟨⟨h1, h2⟩, h3⟩ := h
  refine ⟨h1, h2, h3, ?_⟩
  cases l with
  | nil => simp at h1
  | cons x l => exact ((fitsR_iff x).1 (ordB_fits h3 x List.mem_cons_self)).1
/-! ### Decode -/
open NumPlain CodecPlain in
def gR (l : List Int) : S62 × Int :=
  block_record.of (gt l) (gS (l.drop (gt l).2.toNat)) (gS (((l.drop (gt l).2.toNat).drop (gS (l.drop (gt l).2.toNat)).2.toNat).drop (gOp ((l.drop (gt l).2.toNat).drop (gS (l.drop (gt l).2.toNat)).2.toNat)).2.2.2.toNat)) (gOp ((l.drop (gt l).2.toNat).drop (gS (l.drop (gt l).2.toNat)).2.toNat))
open NumPlain CodecPlain in
theorem gOp_bd (l : List Int) (hb : Bytes l) : 0 ≤ (gOp l).2.2.2 ∧ (gOp l).2.2.2 ≤ l.length := by
  rcases gOp_cases l hb with e | ⟨c, a, b, r, _, e1, e2⟩
  · rw [e]; simp only; omega
  · rw [e2, e1]; simp only [List.length_append]; omega
open NumPlain CodecPlain in
theorem record_eq (l : List Int) (hb : Bytes l) (k : Nat) (hk : 31 ≤ k) : block_record.f k l = some (gR l) := by
  have b1 := gt_bd l hb
  have hb1 := bytes_drop hb (gt l).2.toNat
  have b2 := gS_bd _ hb1
  have hb2 := bytes_drop hb1 (gS (l.drop (gt l).2.toNat)).2.toNat
  have b3 := gOp_bd _ hb2
  have hb3 := bytes_drop hb2 (gOp ((l.drop (gt l).2.toNat).drop (gS (l.drop (gt l).2.toNat)).2.toNat)).2.2.2.toNat
  have b4 := gS_bd _ hb3
  unfold block_record.f gR
  rw [get_eq l hb k hk, Option.bind_some, if_pos b1.1, if_pos b1.2, getS_eq _ hb1 k hk, Option.bind_some, if_pos b2.1, if_pos b2.2, getOp_eq _ hb2 k hk, Option.bind_some, if_pos b3.1, if_pos b3.2, getS_eq _ hb3 k hk, Option.bind_some, if_pos b4.1, if_pos b4.2]
open NumPlain CodecPlain in
theorem gR_of {l d1 d2 d3 : List Int} {p1 q1 s1 a b c : Int} {n1 n2 n3 n4 : Nat} (g1 : gt l = (p1, (n1 : Int))) (e1 : l.drop n1 = d1) (g2 : gS d1 = (q1, (n2 : Int))) (e2 : d1.drop n2 = d2) (g3 : gOp d2 = (a, b, c, (n3 : Int))) (e3 : d2.drop n3 = d3) (g4 : gS d3 = (s1, (n4 : Int))) : gR l = block_record.of (p1, (n1 : Int)) (q1, (n2 : Int)) (s1, (n4 : Int)) (a, b, c, (n3 : Int)) := by
  subst e3 e2 e1
  unfold gR
  simp only [g1, Int.toNat_natCast, g2, g3, g4]
open NumPlain CodecPlain in
theorem gR_back {x : S62} {s : Int} (h : fitsR x = true) (hs : 0 ≤ s ∧ s < 4611686018427387904) (more : List Int) : gR (recB s x ++ more) = (⟨0, x.f1, x.f2 - s, x.f3, x.f4⟩, ((recB s x).length : Int)) := by
  obtain ⟨_, ⟨a1, a2⟩, ⟨b1, b2⟩, c, ⟨d1, d2⟩⟩ := (fitsR_iff x).1 h
  have e0 : recB s x ++ more = pt x.f1 ++ (pS (x.f2 - s) ++ (opB x.f3.f0 x.f3.f1 x.f3.f2 ++ (pS x.f4 ++ more))) := by simp [recB]
  have hl : ((recB s x).length : Int) = (pt x.f1).length + (pS (x.f2 - s)).length + (opB x.f3.f0 x.f3.f1 x.f3.f2).length + (pS x.f4).length := by simp only [recB, List.length_append]; omega
  have p1 := pt_pos a1 (by omega)
  have p2 := pS_pos (x.f2 - s)
  have p3 := opB_pos c
  have p4 := pS_pos x.f4
  rw [e0, gR_of (gt_pt a1 (by omega) _) List.drop_left (gS_pS (by unfold I64; omega) _) List.drop_left (gOp_opB c _) List.drop_left (gS_pS (by unfold I64; omega) _), hl]
  unfold block_record.of
  rw [if_neg (by simp only; omega)]
open NumPlain CodecPlain in
theorem dgo_back (k : Nat) (hk : 31 ≤ k) (first : Int) (more : List Int) (hm : Bytes more) : ∀ (xs : List S62) (i : Nat) (f : Int → Int) (l : List S62), ordB (first + (i : Int)) xs = true → Seqs f → block_Decode.go k first xs.length i f l (recs f xs ++ more) = some (some (l ++ xs))
  | [], i, f, l, _, _ => by simp [block_Decode.go]
  | x :: xs, i, f, l, h, hf => by
    unfold ordB at h
    simp only [Bool.and_eq_true, decide_eq_true_eq] at h
    obtain ⟨⟨hx, e0⟩, hr⟩ := h
    obtain ⟨⟨c1, c2⟩, ⟨a1, a2⟩, ⟨b1, b2⟩, c, ⟨d1, d2⟩⟩ := (fitsR_iff x).1 hx
    have hlen : 1 ≤ (recB (f x.f1) x).length := by
      have := pt_pos (n := x.f1) a1 (by omega)
      simp only [recB, List.length_append]; omega
    have hbt : Bytes (recs f (x :: xs) ++ more) := bytes_join (recs_bytes _ _) hm
    have hw1 : wrap64 (x.f2 - f x.f1 + f x.f1) = x.f2 := by unfold wrap64; omega
    have hw2 : wrap64 (first + (i : Int)) = x.f0 := by unfold wrap64; omega
    rw [List.length_cons]
    simp only [block_Decode.go]
    rw [record_eq _ hbt k hk, Option.bind_some]
    simp only [recs, List.append_assoc]
    rw [gR_back hx (hf x.f1)]
    simp only
    rw [hw1, hw2]
    clear hw1 hw2
    rw [if_neg (by omega), if_pos (by omega), if_pos (by rw [List.length_append]; omega), if_pos ⟨a1, by omega⟩, Int.toNat_natCast, List.drop_left]
    have := dgo_back k hk first more hm xs (i + 1) (MapAid.upd f x.f1 x.f2) (l ++ [x]) (by rw [show first + ((i + 1 : Nat) : Int) = first + i + 1 by omega]; exact hr) (hf.upd b1 b2)
    rw [this, List.append_assoc]
    rfl
open NumPlain CodecPlain in
theorem dec_back {l : List S62} (h : blkOk l = true) (k : Nat) (hk : 600 ≤ k) : block_Decode.f k (blkB l) = some (l, 0) := by
  obtain ⟨h1, h2, h3, h4, h5⟩ := blkOk_facts h
  have hb := blkB_bytes l
  have e1 : blkB l = pt (firstR l) ++ (pt (l.length : Int) ++ recs (fun _ => 0) l) := by simp [blkB]
  have g1 : gt (blkB l) = (firstR l, ((pt (firstR l)).length : Int)) := by rw [e1]; exact gt_pt h4 h5 _
  have d1 : (blkB l).drop (pt (firstR l)).length = pt (l.length : Int) ++ recs (fun _ => 0) l := by rw [e1, List.drop_left]
  have g2 : gt (pt (l.length : Int) ++ recs (fun _ => 0) l) = ((l.length : Int), ((pt (l.length : Int)).length : Int)) := gt_pt (by omega) (by omega) _
  have d2 : (blkB l).drop ((pt (firstR l)).length + (pt (l.length : Int)).length) = recs (fun _ => 0) l := by rw [← List.drop_drop, d1, List.drop_left]
  have p1 := pt_pos h4 h5
  have p2 := pt_pos (n := (l.length : Int)) (by omega) (by omega)
  have hlen : (blkB l).length = (pt (firstR l)).length + (pt (l.length : Int)).length + (recs (fun _ => 0) l).length := by simp only [blkB, List.length_append]
  unfold block_Decode.f
  rw [get_eq _ hb k (by omega), Option.bind_some, g1]
  simp only [Int.toNat_natCast]
  rw [if_pos (by omega), if_pos (by omega), d1, get_eq _ (d1 ▸ bytes_drop hb _) k (by omega), Option.bind_some, g2]
  simp only
  rw [if_neg (by omega), if_pos (by omega), if_pos (by omega), show (((pt (firstR l)).length : Int) + ((pt (l.length : Int)).length : Int)).toNat = (pt (firstR l)).length + (pt (l.length : Int)).length by omega, d2, Int.toNat_natCast]
  have e := dgo_back k (by omega) (firstR l) [] (fun c hc => by cases hc) l 0 (fun _ => 0) [] (by simpa using h3) seqs0
  rw [List.append_nil] at e
  rw [e, Option.bind_some]
  simp only [List.nil_append, block_Decode.fin]
  rw [blkEnc_eq l (by omega) k (by omega), Option.bind_some, encL, if_pos h, if_pos rfl, bytes_Equal.f, Option.bind_some, if_pos (beq_self_eq_true _)]
theorem blkB_len {l : List S62} (h : blkOk l = true) : (blkB l).length ≤ 20000 := by
  obtain ⟨h1, h2, h3, h4, h5⟩ := blkOk_facts h
  have g1 := NumPlain.pt_len (firstR l); have g2 := NumPlain.pt_len (l.length : Int)
  have g3 := recs_len l _ seqs0 (ordB_fits h3)
  simp only [blkB, List.length_append]; omega
end Go.Proofs.YtgljebaiakhbfaaGreat.Pure
