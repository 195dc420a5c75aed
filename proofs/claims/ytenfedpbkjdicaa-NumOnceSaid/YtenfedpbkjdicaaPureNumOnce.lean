/- What this text proves: the number that bytes begin with is put as just these bytes; conditions: none beyond the statement's own. -/
import Derived.Test.YtenfedpbkjdicaaQNumOncex3
import Derived.Test.YtenfedpbkjdicaaNumPlain
import Derived.OpenShut
import Derived.Test.YtenfedpbkjdicaaWSized
namespace Go.Proofs.Ytenfedpbkjdicaa.Pure
open Go.RowKit Go.Proofs.Ytenfedpbkjdicaa.QNumOnce Go.Proofs.YtenfedpbkjdicaaW.PrintWords Go.Proofs.YtenfedpbkjdicaaW.PrintLast Go.Proofs.YtenfedpbkjdicaaW.PrintMore
/-! ### Numbers: bits -/
theorem wraps_u64 (n : Int) (h0 : 0 ≤ n) (h1 : n < 2 ^ 64) : IntKind.u64.wrap n = n := by
  have : IntKind.u64.wrap n = n % 18446744073709551616 := by simp [IntKind.wrap, IntKind.bits, IntKind.signed]
  rw [this]; omega
theorem wrap_u64 (n : Int) : IntKind.u64.wrap n = n % 18446744073709551616 := by simp [IntKind.wrap, IntKind.bits, IntKind.signed]
theorem bits_or_comm (k : IntKind) (x y : Int) : Go.bits .or k x y = Go.bits .or k y x := by
  unfold Go.bits; simp only; rw [BitVec.or_comm]
theorem or128 (x : Int) : Go.bits .or .u8 (x % 256) 128 = x % 128 + 128 := by
  have : ∀ c : Fin 256, Go.bits .or .u8 ((c.val : Nat) : Int) 128 = ((c.val : Nat) : Int) % 128 + 128 := by decide +kernel
  have h2 := this ⟨(x % 256).toNat, by omega⟩
  simp only at h2
  rw [show (((x % 256).toNat : Nat) : Int) = x % 256 by omega] at h2
  rw [h2]; omega
theorem and127 (c : Int) (h0 : 0 ≤ c) (h1 : c ≤ 255) : Go.bits .and .u8 c 127 = c % 128 := by
  have := Go.bits_mask .u8 8 (by decide) Go.wraps_u8 7 (by decide) c h0 (by omega)
  simpa using this
theorem and1 (u : Int) (h0 : 0 ≤ u) (h1 : u < 18446744073709551616) : Go.bits .and .u64 u 1 = u % 2 := by
  have := Go.bits_mask .u64 64 (by decide) wraps_u64 1 (by decide) u h0 (by omega)
  simpa using this
theorem or_shl (u c i : Nat) (hi : i ≤ 63) (hu : u < 2 ^ i) (hc : c * 2 ^ i < 2 ^ 64) : Go.bits .or .u64 (u : Int) (shl .u64 (c : Int) (i : Int)) = ((u + c * 2 ^ i : Nat) : Int) := by
  have e : shl .u64 (c : Int) (i : Int) = ((c * 2 ^ i : Nat) : Int) := by
    unfold shl
    rw [show min ((i : Int)).toNat IntKind.u64.bits = i by simp only [Int.toNat_natCast]; exact Nat.min_eq_left (by show i ≤ 64; omega)]
    rw [show ((c : Int) * 2 ^ i) = ((c * 2 ^ i : Nat) : Int) by push_cast; rfl]
    exact wraps_u64 _ (by omega) (by exact_mod_cast hc)
  have h2 : (2 : Nat) ^ i ≤ 2 ^ 63 := Nat.pow_le_pow_right (by decide) hi
  rw [e, bits_or_comm, Go.bits_join .u64 64 (by decide) wraps_u64 i _ _ (by omega) (by exact_mod_cast Nat.mul_mod_left c (2 ^ i)) (by exact_mod_cast hc) (by omega) (by exact_mod_cast hu) (by omega)]
  push_cast; omega
theorem xor_u64 (x y : Int) : Go.bits .xor .u64 x y = ((BitVec.ofInt 64 x ^^^ BitVec.ofInt 64 y).toNat : Int) := by
  have e : Go.bits .xor .u64 x y = IntKind.u64.wrap ((BitVec.ofInt 64 x ^^^ BitVec.ofInt 64 y).toNat : Int) := rfl
  have := (BitVec.ofInt 64 x ^^^ BitVec.ofInt 64 y).isLt
  rw [e, wrap_u64]; omega
theorem xor_i64 (x y : Int) : Go.bits .xor .i64 x y = (((BitVec.ofInt 64 x ^^^ BitVec.ofInt 64 y).toNat : Int) + 9223372036854775808) % 18446744073709551616 - 9223372036854775808 := by
  have e : Go.bits .xor .i64 x y = IntKind.i64.wrap ((BitVec.ofInt 64 x ^^^ BitVec.ofInt 64 y).toNat : Int) := rfl
  rw [e, Go.IntKind.wrap_i64]
theorem xor_ones (n : Int) : Go.bits .xor .u64 n 18446744073709551615 = 18446744073709551615 - n % 18446744073709551616 := by
  rw [xor_u64, show BitVec.ofInt 64 18446744073709551615 = BitVec.allOnes 64 by decide, BitVec.xor_allOnes, BitVec.toNat_not, BitVec.toNat_ofInt]
  omega
theorem xor_zero (n : Int) : Go.bits .xor .u64 n 0 = n % 18446744073709551616 := by
  rw [xor_u64, show BitVec.ofInt 64 0 = 0#64 by decide, BitVec.xor_zero, BitVec.toNat_ofInt]
  omega
theorem xor_ones_i (n : Int) (h : NumPlain.I64 n) : Go.bits .xor .i64 n (-1) = -n - 1 := by
  unfold NumPlain.I64 at h
  rw [xor_i64, show BitVec.ofInt 64 (-1) = BitVec.allOnes 64 by decide, BitVec.xor_allOnes, BitVec.toNat_not, BitVec.toNat_ofInt]
  omega
theorem xor_zero_i (n : Int) (h : NumPlain.I64 n) : Go.bits .xor .i64 n 0 = n := by
  unfold NumPlain.I64 at h
  rw [xor_i64, show BitVec.ofInt 64 0 = 0#64 by decide, BitVec.xor_zero, BitVec.toNat_ofInt]
  omega
theorem i64_of {a : Int} (h : (Lit.int .i64 a).wf = true) : NumPlain.I64 a := Go.bounds_i64 h
/-! ### Put -/
open NumPlain in
theorem groups_l0 (u : Nat) : ∀ (k : Nat) (x : List Int), (gr u).length ≤ k → x.length + (gr u).length ≤ 140737488355328 → num_groups.l0 k x (u : Int) = some (x ++ gr u) := by
  refine gr_ind (C := fun u => ∀ (k : Nat) (x : List Int), (gr u).length ≤ k → x.length + (gr u).length ≤ 140737488355328 → num_groups.l0 k x (u : Int) = some (x ++ gr u)) (fun u h => ?_) (fun u h ih => ?_) u
  · intro k x hk hx
    rw [gr_small h] at hk hx ⊢
    simp only [List.length_singleton] at hk hx
    obtain ⟨k, rfl⟩ : ∃ m, k = m + 1 := ⟨k - 1, by omega⟩
    simp only [num_groups.l0]
    rw [if_neg (by omega), if_pos (by omega), show (u : Int) % 256 = u by omega]
  · intro k x hk hx
    rw [gr_large h] at hk hx ⊢
    simp only [List.length_cons] at hk hx
    obtain ⟨k, rfl⟩ : ∃ m, k = m + 1 := ⟨k - 1, by omega⟩
    simp only [num_groups.l0]
    rw [if_pos (by omega), if_pos (by omega), or128, show (u : Int) / 128 = ((u / 128 : Nat) : Int) by omega,
      ih k _ (by omega) (by simp; omega), List.append_assoc]
    rw [show (u : Int) % 128 + 128 = ((u % 128 + 128 : Nat) : Int) by omega]
    rfl
open NumPlain in
theorem put_eq (k : Nat) (l : List Int) (n : Int) (hk : 12 ≤ k) (hl : l.length + 12 ≤ 140737488355328) : num_Put.f k l n = some (l ++ pt n) := by
  have hp := pt_len n
  unfold num_Put.f
  unfold pt at hp ⊢
  by_cases h0 : n < 0
  · rw [if_pos h0, if_neg (by omega), List.append_nil]
  · rw [if_neg h0]
    by_cases h1 : n ≥ 4611686018427387904
    · rw [if_pos h1, if_neg (by omega), List.append_nil]
    · rw [if_pos (by omega)] at hp
      rw [if_neg h1, if_pos (by omega), wraps_u64 _ (by omega) (by omega)]
      unfold num_groups.f
      obtain ⟨u, rfl⟩ := Int.eq_ofNat_of_zero_le (show 0 ≤ n by omega)
      simp only [Int.toNat_natCast] at hp ⊢
      rw [groups_l0 u k l (by omega) (by omega)]
      rfl
/-! ### Zig, Zag -/
open NumPlain in
theorem zig_eq (n : Int) (h : I64 n) : num_Zig.f n = some ((zig n : Nat) : Int) := by
  unfold I64 at h
  unfold num_Zig.f zig
  by_cases h0 : 0 ≤ n
  · rw [if_pos h0, show n / 9223372036854775808 = 0 by omega, wraps_u64 0 (by omega) (by omega), xor_zero, wraps_u64 n h0 (by omega), wrap_u64]
    congr 1; omega
  · rw [if_neg h0, show n / 9223372036854775808 = -1 by omega, show IntKind.u64.wrap (-1) = 18446744073709551615 by rw [wrap_u64]; omega, xor_ones, wrap_u64, wrap_u64]
    congr 1; omega
open NumPlain in
theorem zag_eq (u : Nat) (h : u < 2 ^ 64) : num_Zag.f (u : Int) = some (zag u) := by
  unfold num_Zag.f zag
  rw [and1 _ (by omega) (by omega)]
  have e : wrap64 ((u : Int) / 2) = ((u / 2 : Nat) : Int) := by unfold wrap64; omega
  have hi : I64 ((u / 2 : Nat) : Int) := by unfold I64; omega
  by_cases h0 : u % 2 = 0
  · rw [if_pos h0, show wrap64 (-(wrap64 ((u : Int) % 2))) = 0 by unfold wrap64; omega, e, xor_zero_i _ hi]
  · rw [if_neg h0, show wrap64 (-(wrap64 ((u : Int) % 2))) = -1 by unfold wrap64; omega, e, xor_ones_i _ hi]
/-! ### read -/
theorem rd_at (l : List Int) (i : Nat) (c : Int) (r : List Int) (h : l.drop i = c :: r) : rd l (i : Int) = c ∧ i < l.length ∧ l.drop (i + 1) = r := by
  have hi : i < l.length := by
    rcases Nat.lt_or_ge i l.length with h1 | h1
    · exact h1
    · rw [List.drop_eq_nil_of_le h1] at h; cases h
  rw [List.drop_eq_getElem_cons hi] at h
  injection h with h1 h2
  refine ⟨?_, hi, h2⟩
  unfold rd
  rw [Int.toNat_natCast, List.getD_eq_getElem?_getD, List.getElem?_eq_getElem hi]
  exact h1
theorem bytes_drop {l : List Int} (h : NumPlain.Bytes l) (i : Nat) : NumPlain.Bytes (l.drop i) := fun c hc => h c (List.mem_of_mem_drop hc)
theorem wrap64_small (n : Nat) (h : n < 9223372036854775808) : wrap64 (n : Int) = n := by unfold wrap64; omega
def rdOut (u i : Nat) (o : Option (Nat × Nat)) : Int × Int := match o with
  | some (v, m) => (((u + v * 2 ^ (7 * i) : Nat) : Int), ((i + m : Nat) : Int))
  | none => (0, 0)
open NumPlain in
theorem read_l0 (l : List Int) (hb : Bytes l) : ∀ (n i u k : Nat), i + n = 10 → 3 * n + 1 ≤ k → u < 2 ^ (7 * i) → num_read.l0 k l (u : Int) (mn (l.length : Int) 10) (i : Int) = some (rdOut u i (rdg n (l.drop i))) := by
  intro n
  induction n with
  | zero =>
    intro i u k hi hk hu
    obtain ⟨k, rfl⟩ : ∃ m, k = m + 1 := ⟨k - 1, by omega⟩
    simp only [num_read.l0]
    rw [if_neg (by unfold mn; split <;> omega)]
    rfl
  | succ n ih =>
    intro i u k hi hk hu
    obtain ⟨k, rfl⟩ : ∃ m, k = m + 1 := ⟨k - 1, by omega⟩
    simp only [num_read.l0]
    cases hd : l.drop i with
    | nil =>
      have : l.length ≤ i := by
        rcases Nat.lt_or_ge i l.length with h1 | h1
        · rw [List.drop_eq_getElem_cons h1] at hd; cases hd
        · exact h1
      rw [if_neg (by unfold mn; split <;> omega)]
      simp [rdg, rdOut]
    | cons c r =>
      obtain ⟨h1, h2, h3⟩ := rd_at l i c r hd
      have hc : 0 ≤ c ∧ c ≤ 255 := (hd ▸ bytes_drop hb i).head
      have hw : wrap64 (7 * (i : Int)) = ((7 * i : Nat) : Int) := by rw [show (7 * (i : Int)) = ((7 * i : Nat) : Int) by omega]; exact wrap64_small _ (by omega)
      rw [if_pos (by unfold mn; split <;> omega), if_pos (by omega), if_pos (by omega), h1, hw, if_pos (by omega), and127 c hc.1 hc.2, wraps_u64 _ (by omega) (by omega)]
      have hj : ∀ (x4 : Int) (b : Bool) (k : Nat), b = decide (n = 0 ∧ c > 1) → 3 * n + 3 ≤ k → (b = false → x4 = ((u + (c.toNat % 128) * 2 ^ (7 * i) : Nat) : Int)) → num_read.j1 k l x4 (i : Int) c (mn (l.length : Int) 10) (i : Int) b = some (rdOut u i (rdg (n + 1) (c :: r))) := by
        intro x4 b k hb1 hk hx
        obtain ⟨k, rfl⟩ : ∃ m, k = m + 1 := ⟨k - 1, by omega⟩
        simp only [num_read.j1, rdg]
        cases b with
        | true =>
          rw [if_pos rfl]
          have : n = 0 ∧ c > 1 := by simpa using hb1.symm
          rw [if_pos this]; rfl
        | false =>
          have hx := hx rfl
          have hn : ¬ (n = 0 ∧ c > 1) := by simpa using hb1.symm
          rw [if_neg (by simp), if_neg hn]
          have hj2 : ∀ (b : Bool) (k : Nat), b = decide (c = 0 ∧ n ≠ 9) → 3 * n + 2 ≤ k → num_read.j2 k l x4 (i : Int) c (mn (l.length : Int) 10) (i : Int) b = some (rdOut u i (if c = 0 ∧ n ≠ 9 then none else if c < 128 then some (c.toNat, 1) else match rdg n r with
              | some (v, m) => some (c.toNat % 128 + 128 * v, m + 1)
              | none => none)) := by
            intro b k hb2 hk
            obtain ⟨k, rfl⟩ : ∃ m, k = m + 1 := ⟨k - 1, by omega⟩
            simp only [num_read.j2]
            cases b with
            | true =>
              have : c = 0 ∧ n ≠ 9 := by simpa using hb2.symm
              rw [if_pos rfl, if_pos this]; rfl
            | false =>
              have hn2 : ¬ (c = 0 ∧ n ≠ 9) := by simpa using hb2.symm
              rw [if_neg (by simp), if_neg hn2]
              by_cases hlt : c < 128
              · rw [if_pos hlt, if_pos hlt, hx, show (i : Int) + 1 = ((i + 1 : Nat) : Int) by omega, wrap64_small _ (by omega)]
                simp only [rdOut]
                rw [Nat.mod_eq_of_lt (show c.toNat < 128 by omega)]
              · rw [if_neg hlt, if_neg hlt, show (i : Int) + 1 = ((i + 1 : Nat) : Int) by omega, wrap64_small _ (by omega), hx]
                have hp : 2 ^ (7 * (i + 1)) = 2 ^ (7 * i) * 128 := by rw [show 7 * (i + 1) = 7 * i + 7 by omega, Nat.pow_add]
                have hm : (c.toNat % 128) * 2 ^ (7 * i) ≤ 127 * 2 ^ (7 * i) := Nat.mul_le_mul_right _ (by omega)
                rw [ih (i + 1) _ k (by omega) (by omega) (by rw [hp]; omega), h3]
                cases rdg n r with
                | none => rfl
                | some p =>
                  obtain ⟨v, m⟩ := p
                  simp only [rdOut, Option.some.injEq, Prod.mk.injEq]
                  refine ⟨?_, by omega⟩
                  rw [hp]
                  congr 1
                  rw [Nat.add_mul, Nat.add_assoc]
                  congr 1
                  congr 1
                  rw [Nat.mul_comm (2 ^ (7 * i)) 128, ← Nat.mul_assoc, Nat.mul_comm v 128]
          by_cases hc0 : c = 0
          · rw [if_pos hc0]
            refine hj2 _ k ?_ (by omega)
            simp only [hc0, true_and, decide_eq_decide]
            omega
          · rw [if_neg hc0]
            refine hj2 _ k ?_ (by omega)
            simp [hc0]
      have hx : ¬ (n = 0 ∧ c > 1) → Go.bits .or .u64 (u : Int) (shl .u64 (c % 128) ((7 * i : Nat) : Int)) = ((u + (c.toNat % 128) * 2 ^ (7 * i) : Nat) : Int) := by
        intro hn
        rw [show c % 128 = ((c.toNat % 128 : Nat) : Int) by omega]
        refine or_shl u _ _ (by omega) hu ?_
        rcases Nat.lt_or_ge i 9 with h9 | h9
        · have hp : 2 ^ (7 * i) ≤ 2 ^ 56 := Nat.pow_le_pow_right (by decide) (by omega)
          calc (c.toNat % 128) * 2 ^ (7 * i) ≤ 127 * 2 ^ 56 := Nat.mul_le_mul (by omega) hp
            _ < 2 ^ 64 := by decide
        · have : i = 9 := by omega
          subst this
          have : c.toNat % 128 ≤ 1 := by omega
          calc (c.toNat % 128) * 2 ^ (7 * 9) ≤ 1 * 2 ^ 63 := Nat.mul_le_mul_right _ this
            _ < 2 ^ 64 := by decide
      by_cases hi9 : i = 9
      · rw [if_pos (by omega)]
        refine hj _ _ k ?_ (by omega) (fun h => hx ?_)
        · rw [decide_eq_decide]; omega
        · have : ¬ c > 1 := by simpa using h
          omega
      · rw [if_neg (by omega)]
        refine hj _ _ k ?_ (by omega) (fun _ => hx (by omega))
        symm; rw [decide_eq_false_iff_not]; omega
open NumPlain in
theorem read_eq (l : List Int) (hb : Bytes l) (k : Nat) (hk : 31 ≤ k) : num_read.f k l = some (((rdv l).1 : Int), ((rdv l).2 : Int)) := by
  unfold num_read.f
  have := read_l0 l hb 10 0 0 k (by omega) (by omega) (by decide)
  simp only [List.drop_zero] at this
  rw [show ((0 : Nat) : Int) = 0 from rfl] at this
  rw [this]
  unfold rdv
  cases rdg 10 l with
  | none => rfl
  | some p => obtain ⟨v, m⟩ := p; simp [rdOut]
open NumPlain in
theorem get_eq (l : List Int) (hb : Bytes l) (k : Nat) (hk : 31 ≤ k) : num_Get.f k l = some (gt l) := by
  unfold num_Get.f
  rw [read_eq l hb k hk]
  simp only [Option.bind_some]
  unfold gt
  by_cases h : (rdv l).1 < 4611686018427387904
  · rw [if_neg (by omega), if_pos h, wrap64_small _ (by omega)]
  · rw [if_pos (by omega), if_neg h]
/-! ### Strings of bytes -/
theorem str_list (l : List Int) : (strOfNums l).toList = l.map fun n => UInt8.ofNat n.toNat := by rw [ByteArray.toList_eq]; rfl
theorem u8_inj {a b : Int} (ha : 0 ≤ a ∧ a ≤ 255) (hb : 0 ≤ b ∧ b ≤ 255) (h : UInt8.ofNat a.toNat = UInt8.ofNat b.toNat) : a = b := by
  have := congrArg UInt8.toNat h
  simp only [UInt8.toNat_ofNat'] at this
  omega
theorem map_inj : ∀ {a b : List Int}, NumPlain.Bytes a → NumPlain.Bytes b → (a.map fun n => UInt8.ofNat n.toNat) = (b.map fun n => UInt8.ofNat n.toNat) → a = b
  | [], [], _, _, _ => rfl
  | [], _ :: _, _, _, h => by simp at h
  | _ :: _, [], _, _, h => by simp at h
  | x :: a, y :: b, ha, hb, h => by
    simp only [List.map_cons, List.cons.injEq] at h
    rw [u8_inj ha.head hb.head h.1, map_inj ha.tail hb.tail h.2]
theorem str_inj {a b : List Int} (ha : NumPlain.Bytes a) (hb : NumPlain.Bytes b) : (strOfNums a).toList = (strOfNums b).toList ↔ a = b := by
  constructor
  · intro h; rw [str_list, str_list] at h; exact map_inj ha hb h
  · intro h; rw [h]
theorem str_extract (l : List Int) (n : Nat) : ((strOfNums l).extract 0 n).toList = (strOfNums (l.take n)).toList := by
  rw [ByteArray.toList_eq, ByteArray.toList_eq, ByteArray.data_extract, Array.toList_extract]
  simp [strOfNums, List.extract_eq_take_drop]
theorem bytes_take {l : List Int} (h : NumPlain.Bytes l) (n : Nat) : NumPlain.Bytes (l.take n) := fun c hc => h c (List.mem_of_mem_take hc)
theorem bytes_app {a b : List Int} (ha : NumPlain.Bytes a) (hb : NumPlain.Bytes b) : NumPlain.Bytes (a ++ b) := fun c hc => by
  rcases List.mem_append.1 hc with h | h
  · exact ha c h
  · exact hb c h
theorem bytes_of {l : List Int} (h : ∀ x ∈ l, (Lit.int .u8 x).wf = true) : NumPlain.Bytes l := fun c hc => Go.bounds_u8 (h c hc)
/-! ### Fixed -/
theorem shr_at (x i : Nat) (hi : i ≤ 8) : shr .u64 (x : Int) ((8 * i : Nat) : Int) = ((x / 256 ^ i : Nat) : Int) := by
  unfold shr
  rw [show min (((8 * i : Nat) : Int)).toNat IntKind.u64.bits = 8 * i by simp only [Int.toNat_natCast]; exact Nat.min_eq_left (by show 8 * i ≤ 64; omega)]
  rw [show (256 : Nat) ^ i = 2 ^ (8 * i) by rw [Nat.pow_mul]]
  push_cast
  rfl
open NumPlain in
theorem fixed_l0 (x size : Nat) (hs : size ≤ 8) : ∀ (s i k : Nat) (acc : List Int), i + s = size → s + 1 ≤ k → acc.length + s ≤ 140737488355328 → num_fixed.l0 k (x : Int) acc (size : Int) (i : Int) = some (acc ++ fx s (x / 256 ^ i)) := by
  intro s
  induction s with
  | zero =>
    intro i k acc hi hk hl
    obtain ⟨k, rfl⟩ : ∃ m, k = m + 1 := ⟨k - 1, by omega⟩
    simp only [num_fixed.l0]
    rw [if_neg (by omega)]
    simp [fx]
  | succ s ih =>
    intro i k acc hi hk hl
    obtain ⟨k, rfl⟩ : ∃ m, k = m + 1 := ⟨k - 1, by omega⟩
    simp only [num_fixed.l0]
    have hw : wrap64 (8 * (i : Int)) = ((8 * i : Nat) : Int) := by unfold wrap64; omega
    have hw2 : wrap64 ((i : Int) + 1) = ((i + 1 : Nat) : Int) := by unfold wrap64; omega
    rw [if_pos (by omega), hw, if_pos (by omega), if_pos (by omega), shr_at _ _ (by omega), hw2, ih (i + 1) k _ (by omega) (by omega) (by simp; omega), List.append_assoc]
    simp only [fx, List.singleton_append]
    congr 3
    rw [Nat.div_div_eq_div_mul, Nat.pow_succ]
open NumPlain in
theorem fixed32_eq (n : Int) (h0 : 0 ≤ n) (h1 : n < 4294967296) (k : Nat) (hk : 9 ≤ k) : num_Fixed32.f k n = some (fx 4 n.toNat) := by
  unfold num_Fixed32.f num_fixed.f
  rw [wraps_u64 _ h0 (by omega)]
  have := fixed_l0 n.toNat 4 (by omega) 4 0 k [] (by omega) (by omega) (by simp)
  rw [show ((n.toNat : Nat) : Int) = n by omega] at this
  rw [show ((4 : Nat) : Int) = 4 from rfl, show ((0 : Nat) : Int) = 0 from rfl] at this
  rw [this]
  simp
/-! ### awake -/
open NumPlain in
theorem awake_eq (k : Nat) (hk : 31 ≤ k) : ferrymanlaw01_awake.f k = some true := by
  have hb : Bytes [128, 0] := by intro c hc; simp at hc; omega
  have e1 : gt [128, 0] = (0, 0) := by decide
  have e2 : pt 300 = [172, 2] := by
    unfold pt
    rw [if_pos (by omega), show (300 : Int).toNat = 300 from rfl, gr_large (by omega), gr_small (by omega)]
    rfl
  unfold ferrymanlaw01_awake.f
  rw [get_eq _ hb k hk, put_eq k _ _ (by omega) (by simp), e1, e2, zig_eq _ (by unfold I64; omega), show ((4 : Int)) = ((4 : Nat) : Int) from rfl, zag_eq 4 (by decide), fixed32_eq 258 (by omega) (by omega) k (by omega)]
  simp only [Option.bind_some, str_list, List.nil_append]
  decide
open NumPlain in
theorem putS_eq (k : Nat) (l : List Int) (n : Int) (h : I64 n) (hk : 12 ≤ k) (hl : l.length + 12 ≤ 140737488355328) : num_PutSigned.f k l n = some (l ++ pS n) := by
  have hp := pS_len h
  unfold num_PutSigned.f num_groups.f
  rw [zig_eq n h]
  simp only [Option.bind_some]
  unfold pS at hp ⊢
  rw [groups_l0 _ k l (by omega) (by omega)]
  try rfl
/-! ### The rest of what is got, and the reference -/
open NumPlain in
theorem getS_eq (l : List Int) (hb : Bytes l) (k : Nat) (hk : 31 ≤ k) : num_GetSigned.f k l = some (gS l) := by
  unfold num_GetSigned.f
  rw [read_eq l hb k hk]
  simp only [Option.bind_some]
  unfold gS
  by_cases h : (rdv l).2 = 0
  · rw [if_pos (by omega), if_pos h]
  · rw [if_neg (by omega), if_neg h, zag_eq _ (rdv_lt l hb).1]
    rfl
open NumPlain in
theorem NumOnce : ferrymanlaw01_NumOnce.Pure := by
  intro l0 _ _ hb0
  have hb := bytes_of hb0
  refine ⟨100, awake_eq 100 (by omega), ?_⟩
  by_cases h : 1000 < (l0.length : Int)
  · exact .inl h
  · have g1 := gt_once l0 hb
    have g2 := gS_once l0 hb
    refine .inr ⟨by omega, (gt l0).1, (gt l0).2, (gS l0).1, (gS l0).2, get_eq l0 hb 100 (by omega), getS_eq l0 hb 100 (by omega), by omega, by omega, by omega, by omega, by omega, by omega, fun h1 => ?_, fun h1 => ?_⟩
    · rcases g1 with ⟨h2, _⟩ | ⟨_, _, _, _, h2⟩
      · exact absurd h2 h1
      · rw [put_eq 100 [] _ (by omega) (by simp), List.nil_append, h2]
    · rcases g2 with ⟨h2, _⟩ | ⟨_, _, h3, h2⟩
      · exact absurd h2 h1
      · rw [putS_eq 100 [] _ h3 (by omega) (by simp), List.nil_append, h2]
end Go.Proofs.Ytenfedpbkjdicaa.Pure
namespace Go.Proofs.Ytenfedpbkjdicaa.PrintWords
/-- The printed row asks for this fact by this name. -/
abbrev sized_ints := @Go.Proofs.YtenfedpbkjdicaaW.PrintWords.sized_ints
end Go.Proofs.Ytenfedpbkjdicaa.PrintWords
