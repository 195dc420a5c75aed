/- What this text proves: any bytes are the records, or refused, as the document says; conditions: none beyond the statement's own. -/
import Derived.Test.YtecddphmnoegdaaQBlockDecodesx
import Derived.Test.YtecddphmnoegdaaCodecPlain
import Derived.OpenShut
import Derived.Test.YtecddphmnoegdaaWSized
namespace Go.Proofs.Ytecddphmnoegdaa.Pure
open Go.RowKit Go.Proofs.Ytecddphmnoegdaa.QBlockDecodes Go.Proofs.YtecddphmnoegdaaW.PrintWords Go.Proofs.YtecddphmnoegdaaW.PrintLast Go.Proofs.YtecddphmnoegdaaW.PrintMore
/-! ### Numbers: bits -/
theorem wraps_u64 (n : Int) (h0 : 0 ≤ n) (h1 : n < 2 ^ 64) : IntKind.u64.wrap n = n := by
  have : IntKind.u64.wrap n = n % 18446744073709551616 := by simp [IntKind.wrap, IntKind.bits, IntKind.signed]
  rw [this]; omega
theorem wrap_u64 (n : Int) : IntKind.u64.wrap n = n % 18446744073709551616 := by simp [IntKind.wrap, IntKind.bits, IntKind.signed]
theorem bits_or_comm (k : IntKind) (x y : Int) : Go.bits .or k x y = Go.bits .or k y x := by
  unfold Go.bits; simp only; rw [BitVec.or_comm]
theorem or128 (x : Int) : Go.bits .or .u8 (x % 256) 128 = x % 128 + 128 := by
  have : ∀ c : Fin 256, Go.bits .or .u8 ((c.val : Nat) : Int) 128 = ((c.val : Nat) : Int) % 128 + 128 := by decide +kernel
  have h2 := this ⟨(x % 256).toNat, by omega⟩
  simp only at h2
  rw [show (((x % 256).toNat : Nat) : Int) = x % 256 by omega] at h2
  rw [h2]; omega
theorem and127 (c : Int) (h0 : 0 ≤ c) (h1 : c ≤ 255) : Go.bits .and .u8 c 127 = c % 128 := by
  have := Go.bits_mask .u8 8 (by decide) Go.wraps_u8 7 (by decide) c h0 (by omega)
  simpa using this
theorem and1 (u : Int) (h0 : 0 ≤ u) (h1 : u < 18446744073709551616) : Go.bits .and .u64 u 1 = u % 2 := by
  have := Go.bits_mask .u64 64 (by decide) wraps_u64 1 (by decide) u h0 (by omega)
  simpa using this
theorem or_shl (u c i : Nat) (hi : i ≤ 63) (hu : u < 2 ^ i) (hc : c * 2 ^ i < 2 ^ 64) : Go.bits .or .u64 (u : Int) (shl .u64 (c : Int) (i : Int)) = ((u + c * 2 ^ i : Nat) : Int) := by
  have e : shl .u64 (c : Int) (i : Int) = ((c * 2 ^ i : Nat) : Int) := by
    unfold shl
    rw [show min ((i : Int)).toNat IntKind.u64.bits = i by simp only [Int.toNat_natCast]; exact Nat.min_eq_left (by show i ≤ 64; omega)]
    rw [show ((c : Int) * 2 ^ i) = ((c * 2 ^ i : Nat) : Int) by push_cast; rfl]
    exact wraps_u64 _ (by omega) (by exact_mod_cast hc)
  have h2 : (2 : Nat) ^ i ≤ 2 ^ 63 := Nat.pow_le_pow_right (by decide) hi
  rw [e, bits_or_comm, Go.bits_join .u64 64 (by decide) wraps_u64 i _ _ (by omega) (by exact_mod_cast Nat.mul_mod_left c (2 ^ i)) (by exact_mod_cast hc) (by omega) (by exact_mod_cast hu) (by omega)]
  push_cast; omega
theorem xor_u64 (x y : Int) : Go.bits .xor .u64 x y = ((BitVec.ofInt 64 x ^^^ BitVec.ofInt 64 y).toNat : Int) := by
  have e : Go.bits .xor .u64 x y = IntKind.u64.wrap ((BitVec.ofInt 64 x ^^^ BitVec.ofInt 64 y).toNat : Int) := rfl
  have := (BitVec.ofInt 64 x ^^^ BitVec.ofInt 64 y).isLt
  rw [e, wrap_u64]; omega
theorem xor_i64 (x y : Int) : Go.bits .xor .i64 x y = (((BitVec.ofInt 64 x ^^^ BitVec.ofInt 64 y).toNat : Int) + 9223372036854775808) % 18446744073709551616 - 9223372036854775808 := by
  have e : Go.bits .xor .i64 x y = IntKind.i64.wrap ((BitVec.ofInt 64 x ^^^ BitVec.ofInt 64 y).toNat : Int) := rfl
  rw [e, Go.IntKind.wrap_i64]
theorem xor_ones (n : Int) : Go.bits .xor .u64 n 18446744073709551615 = 18446744073709551615 - n % 18446744073709551616 := by
  rw [xor_u64, show BitVec.ofInt 64 18446744073709551615 = BitVec.allOnes 64 by decide, BitVec.xor_allOnes, BitVec.toNat_not, BitVec.toNat_ofInt]
  omega
theorem xor_zero (n : Int) : Go.bits .xor .u64 n 0 = n % 18446744073709551616 := by
  rw [xor_u64, show BitVec.ofInt 64 0 = 0#64 by decide, BitVec.xor_zero, BitVec.toNat_ofInt]
  omega
theorem xor_ones_i (n : Int) (h : NumPlain.I64 n) : Go.bits .xor .i64 n (-1) = -n - 1 := by
  unfold NumPlain.I64 at h
  rw [xor_i64, show BitVec.ofInt 64 (-1) = BitVec.allOnes 64 by decide, BitVec.xor_allOnes, BitVec.toNat_not, BitVec.toNat_ofInt]
  omega
theorem xor_zero_i (n : Int) (h : NumPlain.I64 n) : Go.bits .xor .i64 n 0 = n := by
  unfold NumPlain.I64 at h
  rw [xor_i64, show BitVec.ofInt 64 0 = 0#64 by decide, BitVec.xor_zero, BitVec.toNat_ofInt]
  omega
theorem i64_of {a : Int} (h : (Lit.int .i64 a).wf = true) : NumPlain.I64 a := Go.bounds_i64 h
/-! ### Put -/
open NumPlain in
theorem groups_l0 (u : Nat) : ∀ (k : Nat) (x : List Int), (gr u).length ≤ k → x.length + (gr u).length ≤ 140737488355328 → num_groups.l0 k x (u : Int) = some (x ++ gr u) := by
  refine gr_ind (C := fun u => ∀ (k : Nat) (x : List Int), (gr u).length ≤ k → x.length + (gr u).length ≤ 140737488355328 → num_groups.l0 k x (u : Int) = some (x ++ gr u)) (fun u h => ?_) (fun u h ih => ?_) u
  · intro k x hk hx
    rw [gr_small h] at hk hx ⊢
    simp only [List.length_singleton] at hk hx
    obtain ⟨k, rfl⟩ : ∃ m, k = m + 1 := ⟨k - 1, by omega⟩
    simp only [num_groups.l0]
    rw [if_neg (by omega), if_pos (by omega), show (u : Int) % 256 = u by omega]
  · intro k x hk hx
    rw [gr_large h] at hk hx ⊢
    simp only [List.length_cons] at hk hx
    obtain ⟨k, rfl⟩ : ∃ m, k = m + 1 := ⟨k - 1, by omega⟩
    simp only [num_groups.l0]
    rw [if_pos (by omega), if_pos (by omega), or128, show (u : Int) / 128 = ((u / 128 : Nat) : Int) by omega,
      ih k _ (by omega) (by simp; omega), List.append_assoc]
    rw [show (u : Int) % 128 + 128 = ((u % 128 + 128 : Nat) : Int) by omega]
    rfl
open NumPlain in
theorem put_eq (k : Nat) (l : List Int) (n : Int) (hk : 12 ≤ k) (hl : l.length + 12 ≤ 140737488355328) : num_Put.f k l n = some (l ++ pt n) := by
  have hp := pt_len n
  unfold num_Put.f
  unfold pt at hp ⊢
  by_cases h0 : n < 0
  · rw [if_pos h0, if_neg (by omega), List.append_nil]
  · rw [if_neg h0]
    by_cases h1 : n ≥ 4611686018427387904
    · rw [if_pos h1, if_neg (by omega), List.append_nil]
    · rw [if_pos (by omega)] at hp
      rw [if_neg h1, if_pos (by omega), wraps_u64 _ (by omega) (by omega)]
      unfold num_groups.f
      obtain ⟨u, rfl⟩ := Int.eq_ofNat_of_zero_le (show 0 ≤ n by omega)
      simp only [Int.toNat_natCast] at hp ⊢
      rw [groups_l0 u k l (by omega) (by omega)]
      rfl
/-! ### Zig, Zag -/
open NumPlain in
theorem zig_eq (n : Int) (h : I64 n) : num_Zig.f n = some ((zig n : Nat) : Int) := by
  unfold I64 at h
  unfold num_Zig.f zig
  by_cases h0 : 0 ≤ n
  · rw [if_pos h0, show n / 9223372036854775808 = 0 by omega, wraps_u64 0 (by omega) (by omega), xor_zero, wraps_u64 n h0 (by omega), wrap_u64]
    congr 1; omega
  · rw [if_neg h0, show n / 9223372036854775808 = -1 by omega, show IntKind.u64.wrap (-1) = 18446744073709551615 by rw [wrap_u64]; omega, xor_ones, wrap_u64, wrap_u64]
    congr 1; omega
open NumPlain in
theorem zag_eq (u : Nat) (h : u < 2 ^ 64) : num_Zag.f (u : Int) = some (zag u) := by
  unfold num_Zag.f zag
  rw [and1 _ (by omega) (by omega)]
  have e : wrap64 ((u : Int) / 2) = ((u / 2 : Nat) : Int) := by unfold wrap64; omega
  have hi : I64 ((u / 2 : Nat) : Int) := by unfold I64; omega
  by_cases h0 : u % 2 = 0
  · rw [if_pos h0, show wrap64 (-(wrap64 ((u : Int) % 2))) = 0 by unfold wrap64; omega, e, xor_zero_i _ hi]
  · rw [if_neg h0, show wrap64 (-(wrap64 ((u : Int) % 2))) = -1 by unfold wrap64; omega, e, xor_ones_i _ hi]
/-! ### Strings of bytes -/
theorem str_list (l : List Int) : (strOfNums l).toList = l.map fun n => UInt8.ofNat n.toNat := by rw [ByteArray.toList_eq]; rfl
theorem u8_inj {a b : Int} (ha : 0 ≤ a ∧ a ≤ 255) (hb : 0 ≤ b ∧ b ≤ 255) (h : UInt8.ofNat a.toNat = UInt8.ofNat b.toNat) : a = b := by
  have := congrArg UInt8.toNat h
  simp only [UInt8.toNat_ofNat'] at this
  omega
theorem map_inj : ∀ {a b : List Int}, NumPlain.Bytes a → NumPlain.Bytes b → (a.map fun n => UInt8.ofNat n.toNat) = (b.map fun n => UInt8.ofNat n.toNat) → a = b
  | [], [], _, _, _ => rfl
  | [], _ :: _, _, _, h => by simp at h
  | _ :: _, [], _, _, h => by simp at h
  | x :: a, y :: b, ha, hb, h => by
    simp only [List.map_cons, List.cons.injEq] at h
    rw [u8_inj ha.head hb.head h.1, map_inj ha.tail hb.tail h.2]
theorem str_inj {a b : List Int} (ha : NumPlain.Bytes a) (hb : NumPlain.Bytes b) : (strOfNums a).toList = (strOfNums b).toList ↔ a = b := by
  constructor
  · intro h; rw [str_list, str_list] at h; exact map_inj ha hb h
  · intro h; rw [h]
theorem str_extract (l : List Int) (n : Nat) : ((strOfNums l).extract 0 n).toList = (strOfNums (l.take n)).toList := by
  rw [ByteArray.toList_eq, ByteArray.toList_eq, ByteArray.data_extract, Array.toList_extract]
  simp [strOfNums, List.extract_eq_take_drop]
theorem bytes_take {l : List Int} (h : NumPlain.Bytes l) (n : Nat) : NumPlain.Bytes (l.take n) := fun c hc => h c (List.mem_of_mem_take hc)
theorem bytes_app {a b : List Int} (ha : NumPlain.Bytes a) (hb : NumPlain.Bytes b) : NumPlain.Bytes (a ++ b) := fun c hc => by
  rcases List.mem_append.1 hc with h | h
  · exact ha c h
  · exact hb c h
theorem bytes_of {l : List Int} (h : ∀ x ∈ l, (Lit.int .u8 x).wf = true) : NumPlain.Bytes l := fun c hc => Go.bounds_u8 (h c hc)
open NumPlain in
theorem putS_eq (k : Nat) (l : List Int) (n : Int) (h : I64 n) (hk : 12 ≤ k) (hl : l.length + 12 ≤ 140737488355328) : num_PutSigned.f k l n = some (l ++ pS n) := by
  have hp := pS_len h
  unfold num_PutSigned.f num_groups.f
  rw [zig_eq n h]
  simp only [Option.bind_some]
  unfold pS at hp ⊢
  rw [groups_l0 _ k l (by omega) (by omega)]
  try rfl
/-! ### read -/
theorem rd_at (l : List Int) (i : Nat) (c : Int) (r : List Int) (h : l.drop i = c :: r) : rd l (i : Int) = c ∧ i < l.length ∧ l.drop (i + 1) = r := by
  have hi : i < l.length := by
    rcases Nat.lt_or_ge i l.length with h1 | h1
    · exact h1
    · rw [List.drop_eq_nil_of_le h1] at h; cases h
  rw [List.drop_eq_getElem_cons hi] at h
  injection h with h1 h2
  refine ⟨?_, hi, h2⟩
  unfold rd
  rw [Int.toNat_natCast, List.getD_eq_getElem?_getD, List.getElem?_eq_getElem hi]
  exact h1
theorem bytes_drop {l : List Int} (h : NumPlain.Bytes l) (i : Nat) : NumPlain.Bytes (l.drop i) := fun c hc => h c (List.mem_of_mem_drop hc)
theorem wrap64_small (n : Nat) (h : n < 9223372036854775808) : wrap64 (n : Int) = n := by unfold wrap64; omega
def rdOut (u i : Nat) (o : Option (Nat × Nat)) : Int × Int := match o with
  | some (v, m) => (((u + v * 2 ^ (7 * i) : Nat) : Int), ((i + m : Nat) : Int))
  | none => (0, 0)
open NumPlain in
theorem read_l0 (l : List Int) (hb : Bytes l) : ∀ (n i u k : Nat), i + n = 10 → 3 * n + 1 ≤ k → u < 2 ^ (7 * i) → num_read.l0 k l (u : Int) (mn (l.length : Int) 10) (i : Int) = some (rdOut u i (rdg n (l.drop i))) := by
  intro n
  induction n with
  | zero =>
    intro i u k hi hk hu
    obtain ⟨k, rfl⟩ : ∃ m, k = m + 1 := ⟨k - 1, by omega⟩
    simp only [num_read.l0]
    rw [if_neg (by unfold mn; split <;> omega)]
    rfl
  | succ n ih =>
    intro i u k hi hk hu
    obtain ⟨k, rfl⟩ : ∃ m, k = m + 1 := ⟨k - 1, by omega⟩
    simp only [num_read.l0]
    cases hd : l.drop i with
    | nil =>
      have : l.length ≤ i := by
        rcases Nat.lt_or_ge i l.length with h1 | h1
        · rw [List.drop_eq_getElem_cons h1] at hd; cases hd
        · exact h1
      rw [if_neg (by unfold mn; split <;> omega)]
      simp [rdg, rdOut]
    | cons c r =>
      obtain ⟨h1, h2, h3⟩ := rd_at l i c r hd
      have hc : 0 ≤ c ∧ c ≤ 255 := (hd ▸ bytes_drop hb i).head
      have hw : wrap64 (7 * (i : Int)) = ((7 * i : Nat) : Int) := by rw [show (7 * (i : Int)) = ((7 * i : Nat) : Int) by omega]; exact wrap64_small _ (by omega)
      rw [if_pos (by unfold mn; split <;> omega), if_pos (by omega), if_pos (by omega), h1, hw, if_pos (by omega), and127 c hc.1 hc.2, wraps_u64 _ (by omega) (by omega)]
      have hj : ∀ (x4 : Int) (b : Bool) (k : Nat), b = decide (n = 0 ∧ c > 1) → 3 * n + 3 ≤ k → (b = false → x4 = ((u + (c.toNat % 128) * 2 ^ (7 * i) : Nat) : Int)) → num_read.j1 k l x4 (i : Int) c (mn (l.length : Int) 10) (i : Int) b = some (rdOut u i (rdg (n + 1) (c :: r))) := by
        intro x4 b k hb1 hk hx
        obtain ⟨k, rfl⟩ : ∃ m, k = m + 1 := ⟨k - 1, by omega⟩
        simp only [num_read.j1, rdg]
        cases b with
        | true =>
          rw [if_pos rfl]
          have : n = 0 ∧ c > 1 := by simpa using hb1.symm
          rw [if_pos this]; rfl
        | false =>
          have hx := hx rfl
          have hn : ¬ (n = 0 ∧ c > 1) := by simpa using hb1.symm
          rw [if_neg (by simp), if_neg hn]
          have hj2 : ∀ (b : Bool) (k : Nat), b = decide (c = 0 ∧ n ≠ 9) → 3 * n + 2 ≤ k → num_read.j2 k l x4 (i : Int) c (mn (l.length : Int) 10) (i : Int) b = some (rdOut u i (if c = 0 ∧ n ≠ 9 then none else if c < 128 then some (c.toNat, 1) else match rdg n r with
              | some (v, m) => some (c.toNat % 128 + 128 * v, m + 1)
              | none => none)) := by
            intro b k hb2 hk
            obtain ⟨k, rfl⟩ : ∃ m, k = m + 1 := ⟨k - 1, by omega⟩
            simp only [num_read.j2]
            cases b with
            | true =>
              have : c = 0 ∧ n ≠ 9 := by simpa using hb2.symm
              rw [if_pos rfl, if_pos this]; rfl
            | false =>
              have hn2 : ¬ (c = 0 ∧ n ≠ 9) := by simpa using hb2.symm
              rw [if_neg (by simp), if_neg hn2]
              by_cases hlt : c < 128
              · rw [if_pos hlt, if_pos hlt, hx, show (i : Int) + 1 = ((i + 1 : Nat) : Int) by omega, wrap64_small _ (by omega)]
                simp only [rdOut]
                rw [Nat.mod_eq_of_lt (show c.toNat < 128 by omega)]
              · rw [if_neg hlt, if_neg hlt, show (i : Int) + 1 = ((i + 1 : Nat) : Int) by omega, wrap64_small _ (by omega), hx]
                have hp : 2 ^ (7 * (i + 1)) = 2 ^ (7 * i) * 128 := by rw [show 7 * (i + 1) = 7 * i + 7 by omega, Nat.pow_add]
                have hm : (c.toNat % 128) * 2 ^ (7 * i) ≤ 127 * 2 ^ (7 * i) := Nat.mul_le_mul_right _ (by omega)
                rw [ih (i + 1) _ k (by omega) (by omega) (by rw [hp]; omega), h3]
                cases rdg n r with
                | none => rfl
                | some p =>
                  obtain ⟨v, m⟩ := p
                  simp only [rdOut, Option.some.injEq, Prod.mk.injEq]
                  refine ⟨?_, by omega⟩
                  rw [hp]
                  congr 1
                  rw [Nat.add_mul, Nat.add_assoc]
                  congr 1
                  congr 1
                  rw [Nat.mul_comm (2 ^ (7 * i)) 128, ← Nat.mul_assoc, Nat.mul_comm v 128]
          by_cases hc0 : c = 0
          · rw [if_pos hc0]
            refine hj2 _ k ?_ (by omega)
            simp only [hc0, true_and, decide_eq_decide]
            omega
          · rw [if_neg hc0]
            refine hj2 _ k ?_ (by omega)
            simp [hc0]
      have hx : ¬ (n = 0 ∧ c > 1) → Go.bits .or .u64 (u : Int) (shl .u64 (c % 128) ((7 * i : Nat) : Int)) = ((u + (c.toNat % 128) * 2 ^ (7 * i) : Nat) : Int) := by
        intro hn
        rw [show c % 128 = ((c.toNat % 128 : Nat) : Int) by omega]
        refine or_shl u _ _ (by omega) hu ?_
        rcases Nat.lt_or_ge i 9 with h9 | h9
        · have hp : 2 ^ (7 * i) ≤ 2 ^ 56 := Nat.pow_le_pow_right (by decide) (by omega)
          calc (c.toNat % 128) * 2 ^ (7 * i) ≤ 127 * 2 ^ 56 := Nat.mul_le_mul (by omega) hp
            _ < 2 ^ 64 := by decide
        · have : i = 9 := by omega
          subst this
          have : c.toNat % 128 ≤ 1 := by omega
          calc (c.toNat % 128) * 2 ^ (7 * 9) ≤ 1 * 2 ^ 63 := Nat.mul_le_mul_right _ this
            _ < 2 ^ 64 := by decide
      by_cases hi9 : i = 9
      · rw [if_pos (by omega)]
        refine hj _ _ k ?_ (by omega) (fun h => hx ?_)
        · rw [decide_eq_decide]; omega
        · have : ¬ c > 1 := by simpa using h
          omega
      · rw [if_neg (by omega)]
        refine hj _ _ k ?_ (by omega) (fun _ => hx (by omega))
        symm; rw [decide_eq_false_iff_not]; omega
open NumPlain in
theorem read_eq (l : List Int) (hb : Bytes l) (k : Nat) (hk : 31 ≤ k) : num_read.f k l = some (((rdv l).1 : Int), ((rdv l).2 : Int)) := by
  unfold num_read.f
  have := read_l0 l hb 10 0 0 k (by omega) (by omega) (by decide)
  simp only [List.drop_zero] at this
  rw [show ((0 : Nat) : Int) = 0 from rfl] at this
  rw [this]
  unfold rdv
  cases rdg 10 l with
  | none => rfl
  | some p => obtain ⟨v, m⟩ := p; simp [rdOut]
open NumPlain in
theorem get_eq (l : List Int) (hb : Bytes l) (k : Nat) (hk : 31 ≤ k) : num_Get.f k l = some (gt l) := by
  unfold num_Get.f
  rw [read_eq l hb k hk]
  simp only [Option.bind_some]
  unfold gt
  by_cases h : (rdv l).1 < 4611686018427387904
  · rw [if_neg (by omega), if_pos h, wrap64_small _ (by omega)]
  · rw [if_pos (by omega), if_neg h]
/-! ### The rest of what is got, and the reference -/
open NumPlain in
theorem getS_eq (l : List Int) (hb : Bytes l) (k : Nat) (hk : 31 ≤ k) : num_GetSigned.f k l = some (gS l) := by
  unfold num_GetSigned.f
  rw [read_eq l hb k hk]
  simp only [Option.bind_some]
  unfold gS
  by_cases h : (rdv l).2 = 0
  · rw [if_pos (by omega), if_pos h]
  · rw [if_neg (by omega), if_neg h, zag_eq _ (rdv_lt l hb).1]
    rfl
/-! ### Operations and states that may be -/
theorem rd_nth (l : List Int) (i : Nat) (h : i < l.length) : rd l (i : Int) = l[i] := by unfold rd; rw [Int.toNat_natCast, List.getD_eq_getElem?_getD, List.getElem?_eq_getElem h]; rfl
theorem cut_eq (n : Int) : objs_cut.f n = some (CodecPlain.cutP n) := by
  unfold objs_cut.f CodecPlain.cutP
  congr 1
  unfold mx mn
  repeat' split
  all_goals omega
theorem fits_eq (c a b : Int) : objs_Fits.f c a b = some (CodecPlain.fitsB c a b) := by
  unfold objs_Fits.f CodecPlain.fitsB
  by_cases h0 : 0 ≤ c
  · rw [if_pos h0, decide_eq_true h0]
    by_cases h1 : c ≤ 10
    · rw [if_pos h1, decide_eq_true h1, cut_eq, Option.bind_some]
      by_cases h2 : a = CodecPlain.cutP a
      · rw [if_pos h2, decide_eq_true h2, cut_eq, Option.bind_some]; rw [Bool.true_and, Bool.true_and, Bool.true_and]; rfl
      · rw [if_neg h2, decide_eq_false h2]; simp
    · rw [if_neg h1, decide_eq_false h1]; simp
  · rw [if_neg h0, decide_eq_false h0]; simp
open NumPlain CodecPlain in
theorem putOp_eq (k : Nat) (l : List Int) (c a b : Int) (ha : I64 a) (hb : I64 b) (hk : 12 ≤ k) (hl : l.length + 50 ≤ 140737488355328) : codec_PutOp.f k l c a b = some (if fitsB c a b = true then (l ++ opB c a b, 0) else (l, 1)) := by
  have h1 := pt_len c; have h2 := pS_len ha
  unfold codec_PutOp.f
  rw [fits_eq, Option.bind_some]
  by_cases h : fitsB c a b = true
  · rw [if_pos h, if_pos h, put_eq k l c hk (by omega), Option.bind_some, putS_eq k _ a ha hk (by rw [List.length_append]; omega), Option.bind_some, putS_eq k _ b hb hk (by rw [List.length_append, List.length_append]; omega), Option.bind_some]
    simp [opB]
  · rw [if_neg h, if_neg h]
/-! ### Get -/
open NumPlain in
theorem gt_bd (l : List Int) (hb : Bytes l) : 0 ≤ (gt l).2 ∧ (gt l).2 ≤ l.length := by
  rcases gt_once l hb with ⟨h, _⟩ | ⟨h1, h2, _⟩ <;> omega
open NumPlain in
theorem gS_bd (l : List Int) (hb : Bytes l) : 0 ≤ (gS l).2 ∧ (gS l).2 ≤ l.length := by
  rcases gS_once l hb with ⟨h, _⟩ | ⟨h1, h2, _⟩ <;> omega
open NumPlain CodecPlain in
theorem getOp_eq (l : List Int) (hb : Bytes l) (k : Nat) (hk : 31 ≤ k) : codec_GetOp.f k l = some (gOp l) := by
  have b1 := gt_bd l hb
  have hb1 := bytes_drop hb (gt l).2.toNat
  have b2 := gS_bd _ hb1
  have hb2 := bytes_drop hb1 (gS (l.drop (gt l).2.toNat)).2.toNat
  have b3 := gS_bd _ hb2
  unfold codec_GetOp.f gOp
  rw [get_eq l hb k hk, Option.bind_some, if_pos b1.1, if_pos b1.2, getS_eq _ hb1 k hk, Option.bind_some, if_pos b2.1, if_pos b2.2, getS_eq _ hb2 k hk, Option.bind_some, if_pos b3.1, if_pos b3.2, fits_eq, Option.bind_some]
/-! ### Records -/
open NumPlain CodecPlain MapAid in
def fitsR (x : S32) : Bool := decide (0 ≤ x.f0) && decide (x.f0 < 4611686018427387904) && decide (0 ≤ x.f1) && decide (x.f1 ≤ 64) && decide (0 ≤ x.f2) && decide (x.f2 < 4611686018427387904) && fitsB x.f3.f0 x.f3.f1 x.f3.f2 && decide (-1125899906842624 ≤ x.f4) && decide (x.f4 ≤ 1125899906842624)
theorem fitsR_iff (x : S32) : fitsR x = true ↔ (0 ≤ x.f0 ∧ x.f0 < 4611686018427387904) ∧ (0 ≤ x.f1 ∧ x.f1 ≤ 64) ∧ (0 ≤ x.f2 ∧ x.f2 < 4611686018427387904) ∧ CodecPlain.fitsB x.f3.f0 x.f3.f1 x.f3.f2 = true ∧ (-1125899906842624 ≤ x.f4 ∧ x.f4 ≤ 1125899906842624) := by
  unfold fitsR
  simp only [Bool.and_eq_true, decide_eq_true_eq]
  constructor
  · rintro ⟨⟨⟨⟨⟨⟨⟨⟨a, b⟩, c⟩, d⟩, e⟩, f⟩, g⟩, h⟩, i⟩; exact ⟨⟨a, b⟩, ⟨c, d⟩, ⟨e, f⟩, g, h, i⟩
  · rintro ⟨⟨a, b⟩, ⟨c, d⟩, ⟨e, f⟩, g, h, i⟩; exact ⟨⟨⟨⟨⟨⟨⟨⟨a, b⟩, c⟩, d⟩, e⟩, f⟩, g⟩, h⟩, i⟩
theorem schema_eq (x : S32) : schema_Fits.f x.f0 x.f1 x.f2 x.f3.f0 x.f3.f1 x.f3.f2 x.f4 = some (fitsR x) := by
  unfold schema_Fits.f fitsR
  rw [fits_eq]
  simp only [Option.bind_some]
  by_cases h1 : 0 ≤ x.f0
  · rw [if_pos h1, decide_eq_true h1]
    by_cases h2 : x.f0 < 4611686018427387904
    · rw [if_pos h2, decide_eq_true h2]
      by_cases h3 : 0 ≤ x.f1
      · rw [if_pos h3, decide_eq_true h3]
        by_cases h4 : x.f1 ≤ 64
        · rw [if_pos h4, decide_eq_true h4]
          by_cases h5 : 0 ≤ x.f2
          · rw [if_pos h5, decide_eq_true h5]
            by_cases h6 : x.f2 < 4611686018427387904
            · rw [if_pos h6, decide_eq_true h6]
              cases CodecPlain.fitsB x.f3.f0 x.f3.f1 x.f3.f2 with
              | false => simp
              | true =>
                rw [if_pos rfl]
                by_cases h7 : -1125899906842624 ≤ x.f4
                · rw [if_pos h7, decide_eq_true h7]; simp
                · rw [if_neg h7, decide_eq_false h7]; simp
            · rw [if_neg h6, decide_eq_false h6]; simp
          · rw [if_neg h5, decide_eq_false h5]; simp
        · rw [if_neg h4, decide_eq_false h4]; simp
      · rw [if_neg h3, decide_eq_false h3]; simp
    · rw [if_neg h2, decide_eq_false h2]; simp
  · rw [if_neg h1, decide_eq_false h1]; simp
theorem rdR_nth (l : List S32) (i : Nat) (h : i < l.length) : rd_T32 l (i : Int) = l[i] := by unfold rd_T32; rw [Int.toNat_natCast, List.getD_eq_getElem?_getD, List.getElem?_eq_getElem h]; rfl
def ordB (first : Int) : List S32 → Bool
  | [] => true
  | x :: l => fitsR x && decide (x.f0 = first) && ordB (first + 1) l
def firstR : List S32 → Int
  | [] => 0
  | x :: _ => x.f0
def blkOk (l : List S32) : Bool := decide (1 ≤ l.length) && decide (l.length ≤ 256) && ordB (firstR l) l
theorem firstR_eq (l : List S32) (h : 0 < l.length) : (rd_T32 l 0).f0 = firstR l := by
  rw [show (0 : Int) = ((0 : Nat) : Int) from rfl, rdR_nth l 0 h]
  cases l with
  | nil => simp at h
  | cons x l => rfl
theorem ordB_fits {l : List S32} : ∀ {first : Int}, ordB first l = true → ∀ x ∈ l, fitsR x = true := by
  induction l with
  | nil => intro _ _ x hx; cases hx
  | cons y l ih =>
    intro first h x hx
    unfold ordB at h
    simp only [Bool.and_eq_true, decide_eq_true_eq] at h
    rcases List.mem_cons.1 hx with rfl | hx
    · exact h.1.1
    · exact ih h.2 x hx
theorem blkFits_l0 (l : List S32) (hl : l.length ≤ 1000000) : ∀ (n i k : Nat), i + n = l.length → n + 1 ≤ k → (0 < i → 0 ≤ firstR l ∧ firstR l < 4611686018427387904) → block_Fits.l0 k l l (l.length : Int) (i : Int) = some (ordB (firstR l + i) (l.drop i) && decide (1 ≤ l.length) && decide (l.length ≤ 256)) := by
  intro n
  induction n with
  | zero =>
    intro i k hi hk _
    obtain ⟨k, rfl⟩ : ∃ m, k = m + 1 := ⟨k - 1, by omega⟩
    simp only [block_Fits.l0]
    rw [if_neg (by omega), List.drop_eq_nil_of_le (by omega)]
    by_cases h : (l.length : Int) > 0
    · rw [if_pos h]; simp only [ordB, Bool.true_and]; rw [decide_eq_true (show 1 ≤ l.length by omega), Bool.true_and]; congr 1; rw [decide_eq_decide]; omega
    · rw [if_neg h]; simp only [ordB, Bool.true_and]; rw [decide_eq_false (show ¬ 1 ≤ l.length by omega), Bool.false_and]
  | succ n ih =>
    intro i k hi hk hf
    obtain ⟨k, rfl⟩ : ∃ m, k = m + 1 := ⟨k - 1, by omega⟩
    have hlt : i < l.length := by omega
    simp only [block_Fits.l0]
    rw [if_pos (by omega), if_pos (by omega), if_pos (by omega), rdR_nth l i hlt, schema_eq, Option.bind_some, List.drop_eq_getElem_cons hlt]
    simp only [ordB]
    by_cases h : fitsR l[i] = true
    · have hf0 : 0 ≤ firstR l ∧ firstR l < 4611686018427387904 := by
        rcases Nat.eq_zero_or_pos i with h0 | h0
        · subst h0
          rw [← firstR_eq l hlt, show (0 : Int) = ((0 : Nat) : Int) from rfl, rdR_nth l 0 hlt]
          exact ((fitsR_iff _).1 h).1
        · exact hf h0
      have hw : wrap64 (firstR l + (i : Int)) = firstR l + i := by unfold wrap64; omega
      have hw1 : wrap64 ((i : Int) + 1) = ((i + 1 : Nat) : Int) := by unfold wrap64; omega
      rw [if_pos h, if_pos (by omega), firstR_eq l (by omega), hw, hw1, h, Bool.true_and]
      clear hw hw1
      by_cases he : l[i].f0 = firstR l + i
      · rw [if_pos he, decide_eq_true he, Bool.true_and, ih (i + 1) k (by omega) (by omega) (fun _ => hf0), show firstR l + (i : Int) + 1 = firstR l + ((i + 1 : Nat) : Int) by omega]
      · rw [if_neg he, decide_eq_false he]; simp
    · rw [if_neg h]; simp only [Bool.not_eq_true] at h; rw [h]; simp
theorem blkFits_eq (l : List S32) (hl : l.length ≤ 1000000) (k : Nat) (hk : l.length + 1 ≤ k) : block_Fits.f k l = some (blkOk l) := by
  unfold block_Fits.f
  have h := blkFits_l0 l hl l.length 0 k (by omega) hk (fun h => by omega)
  rw [show ((0 : Nat) : Int) = 0 from rfl, Int.add_zero, List.drop_zero] at h
  rw [h]
  unfold blkOk
  congr 1
  cases decide (l.length ≤ 256) <;> cases decide (1 ≤ l.length) <;> cases ordB (firstR l) l <;> rfl
/-- A record's bytes, where its process's last one had s. -/
def recB (s : Int) (x : S32) : List Int := NumPlain.pt x.f1 ++ NumPlain.pS (x.f2 - s) ++ CodecPlain.opB x.f3.f0 x.f3.f1 x.f3.f2 ++ NumPlain.pS x.f4
def recs : (Int → Int) → List S32 → List Int
  | _, [] => []
  | f, x :: l => recB (f x.f1) x ++ recs (MapAid.upd f x.f1 x.f2) l
def blkB (l : List S32) : List Int := NumPlain.pt (firstR l) ++ NumPlain.pt (l.length : Int) ++ recs (fun _ => 0) l
def Seqs (f : Int → Int) : Prop := ∀ y, 0 ≤ f y ∧ f y < 4611686018427387904
theorem seqs0 : Seqs (fun _ => 0) := fun _ => by simp only; omega
theorem Seqs.upd {f : Int → Int} (h : Seqs f) {x v : Int} (h0 : 0 ≤ v) (h1 : v < 4611686018427387904) : Seqs (MapAid.upd f x v) := fun y => by
  unfold MapAid.upd
  split
  · exact ⟨h0, h1⟩
  · exact h y
theorem recB_bytes (s : Int) (x : S32) : NumPlain.Bytes (recB s x) := CodecPlain.bytes_join (CodecPlain.bytes_join (CodecPlain.bytes_join (NumPlain.pt_bytes _) (NumPlain.pS_bytes _)) (CodecPlain.opB_bytes _ _ _)) (NumPlain.pS_bytes _)
theorem recB_len {s : Int} {x : S32} (h : fitsR x = true) (h0 : 0 ≤ s) (h1 : s < 4611686018427387904) : (recB s x).length ≤ 58 := by
  obtain ⟨_, ⟨a1, a2⟩, ⟨b1, b2⟩, c, ⟨d1, d2⟩⟩ := (fitsR_iff x).1 h
  obtain ⟨i1, i2, _, _⟩ := CodecPlain.fits_i64 c
  have g1 := NumPlain.pt_len x.f1
  have g2 := NumPlain.pS_len (n := x.f2 - s) (by unfold NumPlain.I64; omega)
  have g3 := CodecPlain.opB_len (c := x.f3.f0) i1 i2
  have g4 := NumPlain.pS_len (n := x.f4) (by unfold NumPlain.I64; omega)
  unfold recB
  simp only [List.length_append]
  omega
theorem recs_bytes : ∀ (l : List S32) (f : Int → Int), NumPlain.Bytes (recs f l)
  | [], _ => fun c hc => by cases hc
  | x :: l, f => CodecPlain.bytes_join (recB_bytes _ _) (recs_bytes l _)
theorem recs_len : ∀ (l : List S32) (f : Int → Int), Seqs f → (∀ x ∈ l, fitsR x = true) → (recs f l).length ≤ 58 * l.length
  | [], _, _, _ => Nat.zero_le _
  | x :: l, f, hf, h => by
    have hx := h x List.mem_cons_self
    obtain ⟨_, _, ⟨b1, b2⟩, _⟩ := (fitsR_iff x).1 hx
    have h1 := recB_len hx (hf x.f1).1 (hf x.f1).2
    have h2 := recs_len l (MapAid.upd f x.f1 x.f2) (hf.upd b1 b2) (fun y hy => h y (List.mem_cons_of_mem _ hy))
    simp only [recs, List.length_append, List.length_cons]
    omega
theorem blkB_bytes (l : List S32) : NumPlain.Bytes (blkB l) := CodecPlain.bytes_join (CodecPlain.bytes_join (NumPlain.pt_bytes _) (NumPlain.pt_bytes _)) (recs_bytes _ _)
open NumPlain CodecPlain in
theorem go_eq (k : Nat) (hk : 12 ≤ k) : ∀ (l : List S32) (f : Int → Int) (b : List Int), Seqs f → (∀ x ∈ l, fitsR x = true) → b.length + 58 * l.length + 100 ≤ 140737488355328 → block_Encode.go k l f b = some (b ++ recs f l)
  | [], f, b, _, _, _ => by simp [block_Encode.go, recs]
  | x :: l, f, b, hf, h, hb => by
    have hx := h x List.mem_cons_self
    obtain ⟨⟨_, _⟩, ⟨a1, a2⟩, ⟨b1, b2⟩, c, ⟨d1, d2⟩⟩ := (fitsR_iff x).1 hx
    obtain ⟨i1, i2, _, _⟩ := fits_i64 c
    obtain ⟨f0, f1⟩ := hf x.f1
    have g1 := pt_len x.f1
    have g2 := pS_len (n := x.f2 - f x.f1) (by unfold I64; omega)
    have g3 := opB_len (c := x.f3.f0) i1 i2
    have g4 := pS_len (n := x.f4) (by unfold I64; omega)
    have hw : wrap64 (x.f2 - f x.f1) = x.f2 - f x.f1 := by unfold wrap64; omega
    rw [List.length_cons] at hb
    simp only [block_Encode.go, recs]
    rw [hw]
    clear hw
    rw [if_pos ⟨a1, a2, b1, b2⟩, put_eq k b _ hk (by omega), Option.bind_some, putS_eq k _ _ (by unfold I64; omega) hk (by rw [List.length_append]; omega), Option.bind_some, putOp_eq k _ _ _ _ i1 i2 hk (by simp only [List.length_append]; omega), if_pos c, Option.bind_some, putS_eq k _ _ (by unfold I64; omega) hk (by simp only [List.length_append]; omega), Option.bind_some]
    rw [go_eq k hk l _ _ (hf.upd b1 b2) (fun y hy => h y (List.mem_cons_of_mem _ hy)) (by simp only [List.length_append]; omega)]
    simp [recB]
/-- The answer of block.Encode. -/
def encL (l : List S32) : List Int × Int := if blkOk l = true then (blkB l, 0) else ([], 1)
open NumPlain CodecPlain in
theorem blkEnc_eq (l : List S32) (hl : l.length ≤ 1000000) (k : Nat) (hk : l.length + 12 ≤ k) : block_Encode.f k l = some (encL l) := by
  unfold block_Encode.f encL
  rw [blkFits_eq l hl k (by omega), Option.bind_some]
  by_cases h : blkOk l = true
  · rw [if_pos h, if_pos h]
    unfold blkOk at h
    simp only [Bool.and_eq_true, decide_eq_true_eq] at h
    obtain ⟨⟨h1, h2⟩, h3⟩ := h
    have g1 := pt_len (firstR l); have g2 := pt_len (l.length : Int)
    rw [if_pos (by omega), firstR_eq l (by omega), put_eq k [] _ (by omega) (by simp), Option.bind_some, put_eq k _ _ (by omega) (by simp; omega), Option.bind_some, go_eq k (by omega) l _ _ seqs0 (ordB_fits h3) (by simp only [List.length_append, List.nil_append]; omega)]
    simp [blkB]
  · rw [if_neg h, if_neg h]
open NumPlain CodecPlain in
theorem awake_eq (k : Nat) (hk : 20 ≤ k) : ferrymanlaw07_awake.f k = some true := by
  have e1 : blkOk [(⟨7, 1, 5, (⟨0, 0, 0⟩ : S30), 0⟩ : S32), (⟨8, 1, 6, (⟨0, 0, 0⟩ : S30), 0⟩ : S32)] = true := by decide
  have e2 : blkB [(⟨7, 1, 5, (⟨0, 0, 0⟩ : S30), 0⟩ : S32), (⟨8, 1, 6, (⟨0, 0, 0⟩ : S30), 0⟩ : S32)] = [7, 2, 1, 10, 0, 0, 0, 0, 1, 2, 0, 0, 0, 0] := by
    simp only [blkB, firstR, recs, recB, opB, MapAid.upd, List.length_cons, List.length_nil]
    have p0 : pt 0 = [0] := by unfold pt; rw [if_pos (by omega), show (0 : Int).toNat = 0 from rfl, gr_small (by omega)]; rfl
    have p1 : pt 1 = [1] := by unfold pt; rw [if_pos (by omega), show (1 : Int).toNat = 1 from rfl, gr_small (by omega)]; rfl
    have p7 : pt 7 = [7] := by unfold pt; rw [if_pos (by omega), show (7 : Int).toNat = 7 from rfl, gr_small (by omega)]; rfl
    have p2 : pt ((0 + 1 + 1 : Nat) : Int) = [2] := by unfold pt; rw [if_pos (by omega), show (((0 + 1 + 1 : Nat) : Int)).toNat = 2 from rfl, gr_small (by omega)]; rfl
    have q0 : pS 0 = [0] := by unfold pS; rw [show zig 0 = 0 from rfl, gr_small (by omega)]; rfl
    have q5 : pS (5 - 0) = [10] := by unfold pS; rw [show zig (5 - 0) = 10 from rfl, gr_small (by omega)]; rfl
    have q1 : pS (6 - (if True then (5 : Int) else 0)) = [2] := by rw [if_pos trivial]; unfold pS; rw [show zig (6 - 5) = 2 from rfl, gr_small (by omega)]; rfl
    rw [p0, p1, p7, p2, q0, q5, q1]
    rfl
  unfold ferrymanlaw07_awake.f
  rw [blkEnc_eq _ (by simp) k (by simp; omega), encL, if_pos e1, e2, Option.bind_some, if_pos rfl, str_list]
  decide
/-! ### What two blocks have in common -/
open NumPlain CodecPlain in
theorem recB_front {x y : S32} {s : Int} {r t : List Int} (hs : 0 ≤ s ∧ s < 4611686018427387904) (h : fitsR x = true) (g : fitsR y = true) (e0 : x.f0 = y.f0) (ef : ∀ z, z = x.f1 ∨ z = y.f1 → True) (s' : Int) (hs' : 0 ≤ s' ∧ s' < 4611686018427387904) (hss : x.f1 = y.f1 → s = s') (e : recB s x ++ r = recB s' y ++ t) : x = y ∧ r = t := by
  obtain ⟨_, ⟨a1, a2⟩, ⟨b1, b2⟩, c, ⟨d1, d2⟩⟩ := (fitsR_iff x).1 h
  obtain ⟨_, ⟨a1', a2'⟩, ⟨b1', b2'⟩, c', ⟨d1', d2'⟩⟩ := (fitsR_iff y).1 g
  unfold recB at e
  simp only [List.append_assoc] at e
  obtain ⟨e1, e⟩ := pt_front a1 (by omega) a1' (by omega) e
  have := hss e1
  subst this
  obtain ⟨e2, e⟩ := pS_front (by unfold I64; omega) (by unfold I64; omega) e
  obtain ⟨e3, e4, e5, e⟩ := opB_front c c' e
  obtain ⟨e6, e⟩ := pS_front (by unfold I64; omega) (by unfold I64; omega) e
  refine ⟨?_, e⟩
  cases x with | mk x0 x1 x2 x3 x4 =>
  cases y with | mk y0 y1 y2 y3 y4 =>
  cases x3 with | mk u0 u1 u2 =>
  cases y3 with | mk v0 v1 v2 =>
  simp only at e0 e1 e2 e3 e4 e5 e6
  subst e0 e1 e3 e4 e5 e6
  congr 1
  omega
theorem recs_front : ∀ {xs ys : List S32} {f : Int → Int} {first : Int} {r s : List Int}, Seqs f → ordB first xs = true → ordB first ys = true → xs.length = ys.length → recs f xs ++ r = recs f ys ++ s → xs = ys ∧ r = s
  | [], [], _, _, _, _, _, _, _, _, e => ⟨rfl, by simpa [recs] using e⟩
  | [], _ :: _, _, _, _, _, _, _, _, h, _ => by simp at h
  | _ :: _, [], _, _, _, _, _, _, _, h, _ => by simp at h
  | x :: xs, y :: ys, f, first, r, s, hf, hx, hy, h, e => by
    unfold ordB at hx hy
    simp only [Bool.and_eq_true, decide_eq_true_eq] at hx hy
    simp only [recs, List.append_assoc] at e
    obtain ⟨rfl, e⟩ := recB_front (hf x.f1) hx.1.1 hy.1.1 (hx.1.2.trans hy.1.2.symm) (fun _ _ => trivial) _ (hf y.f1) (fun e => by rw [e]) e
    obtain ⟨_, _, ⟨b1, b2⟩, _⟩ := (fitsR_iff x).1 hx.1.1
    obtain ⟨e1, e2⟩ := recs_front (hf.upd b1 b2) hx.2 hy.2 (by simpa using h) e
    exact ⟨by rw [e1], e2⟩
theorem blkOk_facts {l : List S32} (h : blkOk l = true) : 1 ≤ l.length ∧ l.length ≤ 256 ∧ ordB (firstR l) l = true ∧ 0 ≤ firstR l ∧ firstR l < 4611686018427387904 := by
  unfold blkOk at h
  simp only [Bool.and_eq_true, decide_eq_true_eq] at h
  obtain ⟨⟨h1, h2⟩, h3⟩ := h
  refine ⟨h1, h2, h3, ?_⟩
  cases l with
  | nil => simp at h1
  | cons x l => exact ((fitsR_iff x).1 (ordB_fits h3 x List.mem_cons_self)).1
open NumPlain CodecPlain in
theorem blk_front {a b : List S32} {r s : List Int} (ha : blkOk a = true) (hb : blkOk b = true) (e : blkB a ++ r = blkB b ++ s) : a = b ∧ r = s := by
  obtain ⟨a1, a2, a3, a4, a5⟩ := blkOk_facts ha
  obtain ⟨b1, b2, b3, b4, b5⟩ := blkOk_facts hb
  unfold blkB at e
  simp only [List.append_assoc] at e
  obtain ⟨e1, e⟩ := pt_front a4 a5 b4 b5 e
  obtain ⟨e2, e⟩ := pt_front (by omega) (by omega) (by omega) (by omega) e
  exact recs_front seqs0 a3 (e1 ▸ b3) (by omega) e
/-! ### Same -/
theorem same_one (x y : S32) : ((!((x.f0) == (y.f0)) || (!((x.f1) == (y.f1)) || (!((x.f2) == (y.f2)) || ((!((x.f3.f0) == (y.f3.f0)) || (!((x.f3.f1) == (y.f3.f1)) || (!((x.f3.f2) == (y.f3.f2))))) || (!((x.f4) == (y.f4))))))) = true) ↔ x ≠ y := by
  cases x with | mk x0 x1 x2 x3 x4 =>
  cases y with | mk y0 y1 y2 y3 y4 =>
  cases x3 with | mk u0 u1 u2 =>
  cases y3 with | mk v0 v1 v2 =>
  simp only [Bool.or_eq_true, Bool.not_eq_true', beq_eq_false_iff_ne, ne_eq, S32.mk.injEq, S30.mk.injEq]
  constructor
  · rintro h ⟨rfl, rfl, rfl, ⟨rfl, rfl, rfl⟩, rfl⟩
    simp at h
  · intro h
    by_cases h0 : x0 = y0
    · by_cases h1 : x1 = y1
      · by_cases h2 : x2 = y2
        · by_cases h3 : u0 = v0
          · by_cases h4 : u1 = v1
            · by_cases h5 : u2 = v2
              · by_cases h6 : x4 = y4
                · exact absurd ⟨h0, h1, h2, ⟨h3, h4, h5⟩, h6⟩ h
                · simp [h6]
              · simp [h5]
            · simp [h4]
          · simp [h3]
        · simp [h2]
      · simp [h1]
    · simp [h0]
theorem same_l0 (a b : List S32) (hab : a.length = b.length) (hl : a.length ≤ 1000000) : ∀ (n i k : Nat), i + n = a.length → n + 1 ≤ k → ∃ t, ferrymanref07_Same.l0 k a b (i : Int) = some t ∧ (t = true ↔ a.drop i = b.drop i) := by
  intro n
  induction n with
  | zero =>
    intro i k hi hk
    obtain ⟨k, rfl⟩ : ∃ m, k = m + 1 := ⟨k - 1, by omega⟩
    simp only [ferrymanref07_Same.l0]
    rw [if_neg (by omega)]
    exact ⟨true, rfl, by rw [List.drop_eq_nil_of_le (by omega), List.drop_eq_nil_of_le (by omega)]; simp⟩
  | succ n ih =>
    intro i k hi hk
    obtain ⟨k, rfl⟩ : ∃ m, k = m + 1 := ⟨k - 1, by omega⟩
    have h1 : i < a.length := by omega
    have h2 : i < b.length := by omega
    have hw : wrap64 ((i : Int) + 1) = ((i + 1 : Nat) : Int) := by unfold wrap64; omega
    simp only [ferrymanref07_Same.l0]
    rw [hw]
    clear hw
    rw [if_pos (by omega), if_pos (by omega), if_pos (by omega), rdR_nth a i h1, rdR_nth b i h2, List.drop_eq_getElem_cons h1, List.drop_eq_getElem_cons h2]
    by_cases e : a[i] = b[i]
    · rw [if_neg (fun h => (same_one _ _).1 h e)]
      obtain ⟨t, ht, htt⟩ := ih (i + 1) k (by omega) (by omega)
      exact ⟨t, ht, htt.trans ⟨fun h => by rw [e, h], fun h => (List.cons.inj h).2⟩⟩
    · rw [if_pos ((same_one _ _).2 e)]
      exact ⟨false, rfl, ⟨fun h => (by cases h), fun h => absurd (List.cons.inj h).1 e⟩⟩
theorem same_eq (a b : List S32) (hl : a.length ≤ 1000000) (k : Nat) (hk : a.length + 1 ≤ k) : ∃ t, ferrymanref07_Same.f k a b = some t ∧ (t = true ↔ a = b) := by
  unfold ferrymanref07_Same.f
  by_cases h : a.length = b.length
  · rw [if_pos (by omega)]
    obtain ⟨t, ht, htt⟩ := same_l0 a b h hl a.length 0 k (by omega) hk
    exact ⟨t, ht, by simpa using htt⟩
  · rw [if_neg (by omega)]
    exact ⟨false, rfl, by simp; rintro rfl; exact h rfl⟩
/-! ### Decode -/
open NumPlain CodecPlain in
def gR (l : List Int) : S32 × Int :=
  block_record.of (gt l) (gS (l.drop (gt l).2.toNat)) (gS (((l.drop (gt l).2.toNat).drop (gS (l.drop (gt l).2.toNat)).2.toNat).drop (gOp ((l.drop (gt l).2.toNat).drop (gS (l.drop (gt l).2.toNat)).2.toNat)).2.2.2.toNat)) (gOp ((l.drop (gt l).2.toNat).drop (gS (l.drop (gt l).2.toNat)).2.toNat))
open NumPlain CodecPlain in
theorem gOp_bd (l : List Int) (hb : Bytes l) : 0 ≤ (gOp l).2.2.2 ∧ (gOp l).2.2.2 ≤ l.length := by
  rcases gOp_cases l hb with e | ⟨c, a, b, r, _, e1, e2⟩
  · rw [e]; simp only; omega
  · rw [e2, e1]; simp only [List.length_append]; omega
open NumPlain CodecPlain in
theorem record_eq (l : List Int) (hb : Bytes l) (k : Nat) (hk : 31 ≤ k) : block_record.f k l = some (gR l) := by
  have b1 := gt_bd l hb
  have hb1 := bytes_drop hb (gt l).2.toNat
  have b2 := gS_bd _ hb1
  have hb2 := bytes_drop hb1 (gS (l.drop (gt l).2.toNat)).2.toNat
  have b3 := gOp_bd _ hb2
  have hb3 := bytes_drop hb2 (gOp ((l.drop (gt l).2.toNat).drop (gS (l.drop (gt l).2.toNat)).2.toNat)).2.2.2.toNat
  have b4 := gS_bd _ hb3
  unfold block_record.f gR
  rw [get_eq l hb k hk, Option.bind_some, if_pos b1.1, if_pos b1.2, getS_eq _ hb1 k hk, Option.bind_some, if_pos b2.1, if_pos b2.2, getOp_eq _ hb2 k hk, Option.bind_some, if_pos b3.1, if_pos b3.2, getS_eq _ hb3 k hk, Option.bind_some, if_pos b4.1, if_pos b4.2]
open NumPlain CodecPlain in
theorem gR_bd (l : List Int) (hb : Bytes l) : 0 ≤ (gR l).2 ∧ ((gR l).2 ≠ 0 → (gR l).2 ≤ l.length ∧ 0 ≤ (gR l).1.f1 ∧ (gR l).1.f1 < 4611686018427387904) := by
  have b1 := gt_bd l hb
  have hb1 := bytes_drop hb (gt l).2.toNat
  have b2 := gS_bd _ hb1
  have hb2 := bytes_drop hb1 (gS (l.drop (gt l).2.toNat)).2.toNat
  have b3 := gOp_bd _ hb2
  have hb3 := bytes_drop hb2 (gOp ((l.drop (gt l).2.toNat).drop (gS (l.drop (gt l).2.toNat)).2.toNat)).2.2.2.toNat
  have b4 := gS_bd _ hb3
  have h1 := gt_once l hb
  unfold gR block_record.of
  simp only [List.length_drop] at b2 b3 b4
  split
  · exact ⟨by simp only; omega, fun h => absurd rfl h⟩
  · exact ⟨by simp only; omega, fun _ => ⟨by simp only; omega, by simp only; omega, by simp only; omega⟩⟩
open NumPlain CodecPlain in
theorem gR_of {l d1 d2 d3 : List Int} {p1 q1 s1 a b c : Int} {n1 n2 n3 n4 : Nat} (g1 : gt l = (p1, (n1 : Int))) (e1 : l.drop n1 = d1) (g2 : gS d1 = (q1, (n2 : Int))) (e2 : d1.drop n2 = d2) (g3 : gOp d2 = (a, b, c, (n3 : Int))) (e3 : d2.drop n3 = d3) (g4 : gS d3 = (s1, (n4 : Int))) : gR l = block_record.of (p1, (n1 : Int)) (q1, (n2 : Int)) (s1, (n4 : Int)) (a, b, c, (n3 : Int)) := by
  subst e3 e2 e1
  unfold gR
  simp only [g1, Int.toNat_natCast, g2, g3, g4]
open NumPlain CodecPlain in
theorem gR_back {x : S32} {s : Int} (h : fitsR x = true) (hs : 0 ≤ s ∧ s < 4611686018427387904) (more : List Int) : gR (recB s x ++ more) = (⟨0, x.f1, x.f2 - s, x.f3, x.f4⟩, ((recB s x).length : Int)) := by
  obtain ⟨_, ⟨a1, a2⟩, ⟨b1, b2⟩, c, ⟨d1, d2⟩⟩ := (fitsR_iff x).1 h
  have e0 : recB s x ++ more = pt x.f1 ++ (pS (x.f2 - s) ++ (opB x.f3.f0 x.f3.f1 x.f3.f2 ++ (pS x.f4 ++ more))) := by simp [recB]
  have hl : ((recB s x).length : Int) = (pt x.f1).length + (pS (x.f2 - s)).length + (opB x.f3.f0 x.f3.f1 x.f3.f2).length + (pS x.f4).length := by simp only [recB, List.length_append]; omega
  have p1 := pt_pos a1 (by omega)
  have p2 := pS_pos (x.f2 - s)
  have p3 := opB_pos c
  have p4 := pS_pos x.f4
  rw [e0, gR_of (gt_pt a1 (by omega) _) List.drop_left (gS_pS (by unfold I64; omega) _) List.drop_left (gOp_opB c _) List.drop_left (gS_pS (by unfold I64; omega) _), hl]
  unfold block_record.of
  rw [if_neg (by simp only; omega)]
open NumPlain CodecPlain in
theorem dgo_tot (k : Nat) (hk : 31 ≤ k) (first : Int) : ∀ (n i : Nat) (f : Int → Int) (l : List S32) (rest : List Int), Bytes rest → ∃ o, block_Decode.go k first n i f l rest = some o ∧ ∀ l', o = some l' → l'.length = l.length + n
  | 0, i, f, l, rest, _ => ⟨some l, rfl, fun l' h => by rw [← Option.some.inj h]; rfl⟩
  | n + 1, i, f, l, rest, hb => by
    obtain ⟨h0, h1⟩ := gR_bd rest hb
    simp only [block_Decode.go]
    rw [record_eq rest hb k hk, Option.bind_some]
    by_cases hz : (gR rest).2 = 0
    · exact ⟨none, by rw [if_pos hz], fun l' h => by cases h⟩
    · obtain ⟨h2, h3, h4⟩ := h1 hz
      rw [if_neg hz, if_pos h0, if_pos h2, if_pos ⟨h3, h4⟩]
      obtain ⟨o, ho, hl⟩ := dgo_tot k hk first n (i + 1) _ _ _ (bytes_drop hb (gR rest).2.toNat)
      exact ⟨o, ho, fun l' h => by rw [hl l' h, List.length_append, List.length_singleton]; omega⟩
open NumPlain CodecPlain in
theorem dgo_back (k : Nat) (hk : 31 ≤ k) (first : Int) (more : List Int) (hm : Bytes more) : ∀ (xs : List S32) (i : Nat) (f : Int → Int) (l : List S32), ordB (first + (i : Int)) xs = true → Seqs f → block_Decode.go k first xs.length i f l (recs f xs ++ more) = some (some (l ++ xs))
  | [], i, f, l, _, _ => by simp [block_Decode.go]
  | x :: xs, i, f, l, h, hf => by
    unfold ordB at h
    simp only [Bool.and_eq_true, decide_eq_true_eq] at h
    obtain ⟨⟨hx, e0⟩, hr⟩ := h
    obtain ⟨⟨c1, c2⟩, ⟨a1, a2⟩, ⟨b1, b2⟩, c, ⟨d1, d2⟩⟩ := (fitsR_iff x).1 hx
    have hlen : 1 ≤ (recB (f x.f1) x).length := by
      have := pt_pos (n := x.f1) a1 (by omega)
      simp only [recB, List.length_append]; omega
    have hbt : Bytes (recs f (x :: xs) ++ more) := bytes_join (recs_bytes _ _) hm
    have hw1 : wrap64 (x.f2 - f x.f1 + f x.f1) = x.f2 := by unfold wrap64; omega
    have hw2 : wrap64 (first + (i : Int)) = x.f0 := by unfold wrap64; omega
    rw [List.length_cons]
    simp only [block_Decode.go]
    rw [record_eq _ hbt k hk, Option.bind_some]
    simp only [recs, List.append_assoc]
    rw [gR_back hx (hf x.f1)]
    simp only
    rw [hw1, hw2]
    clear hw1 hw2
    rw [if_neg (by omega), if_pos (by omega), if_pos (by rw [List.length_append]; omega), if_pos ⟨a1, by omega⟩, Int.toNat_natCast, List.drop_left]
    have := dgo_back k hk first more hm xs (i + 1) (MapAid.upd f x.f1 x.f2) (l ++ [x]) (by rw [show first + ((i + 1 : Nat) : Int) = first + i + 1 by omega]; exact hr) (hf.upd b1 b2)
    rw [this, List.append_assoc]
    rfl
open NumPlain CodecPlain in
theorem dec_once (b : List Int) (hb : Bytes b) (_hl : b.length ≤ 1000000) (k : Nat) (hk : 600 ≤ k) : ∃ l e, block_Decode.f k b = some (l, e) ∧ ((l = [] ∧ e = 3) ∨ (e = 0 ∧ blkOk l = true ∧ blkB l = b)) := by
  have b1 := gt_bd b hb
  have hb1 := bytes_drop hb (gt b).2.toNat
  have b2 := gt_bd _ hb1
  rw [List.length_drop] at b2
  unfold block_Decode.f
  rw [get_eq b hb k (by omega), Option.bind_some, if_pos b1.1, if_pos b1.2, get_eq _ hb1 k (by omega), Option.bind_some]
  generalize gt (b.drop (gt b).2.toNat) = q at *
  generalize gt b = p at *
  by_cases hbad : p.2 = 0 ∨ q.2 = 0 ∨ q.1 > 256
  · rw [if_pos hbad]; exact ⟨[], 3, rfl, .inl ⟨rfl, rfl⟩⟩
  · rw [if_neg hbad, if_pos b2.1, if_pos (by omega)]
    obtain ⟨o, ho, hlo⟩ := dgo_tot k (by omega) p.1 q.1.toNat 0 (fun _ => 0) [] (b.drop (p.2 + q.2).toNat) (bytes_drop hb _)
    rw [ho, Option.bind_some]
    cases o with
    | none => exact ⟨[], 3, rfl, .inl ⟨rfl, rfl⟩⟩
    | some l =>
      have h1 := hlo l rfl
      rw [List.length_nil, Nat.zero_add] at h1
      simp only [block_Decode.fin]
      rw [blkEnc_eq l (by omega) k (by omega), Option.bind_some, encL]
      by_cases hok : blkOk l = true
      · rw [if_pos hok, if_pos rfl, bytes_Equal.f, Option.bind_some]
        by_cases he : blkB l = b
        · rw [if_pos (by rw [he]; exact beq_self_eq_true _)]
          exact ⟨l, 0, rfl, .inr ⟨rfl, hok, he⟩⟩
        · rw [if_neg (by rw [beq_iff_eq, str_inj (blkB_bytes l) hb]; exact he)]
          exact ⟨[], 3, rfl, .inl ⟨rfl, rfl⟩⟩
      · rw [if_neg hok, if_neg (by decide)]
        exact ⟨[], 3, rfl, .inl ⟨rfl, rfl⟩⟩
open NumPlain CodecPlain in
theorem dec_back {l : List S32} (h : blkOk l = true) (k : Nat) (hk : 600 ≤ k) : block_Decode.f k (blkB l) = some (l, 0) := by
  obtain ⟨h1, h2, h3, h4, h5⟩ := blkOk_facts h
  have hb := blkB_bytes l
  have e1 : blkB l = pt (firstR l) ++ (pt (l.length : Int) ++ recs (fun _ => 0) l) := by simp [blkB]
  have g1 : gt (blkB l) = (firstR l, ((pt (firstR l)).length : Int)) := by rw [e1]; exact gt_pt h4 h5 _
  have d1 : (blkB l).drop (pt (firstR l)).length = pt (l.length : Int) ++ recs (fun _ => 0) l := by rw [e1, List.drop_left]
  have g2 : gt (pt (l.length : Int) ++ recs (fun _ => 0) l) = ((l.length : Int), ((pt (l.length : Int)).length : Int)) := gt_pt (by omega) (by omega) _
  have d2 : (blkB l).drop ((pt (firstR l)).length + (pt (l.length : Int)).length) = recs (fun _ => 0) l := by rw [← List.drop_drop, d1, List.drop_left]
  have p1 := pt_pos h4 h5
  have p2 := pt_pos (n := (l.length : Int)) (by omega) (by omega)
  have hlen : (blkB l).length = (pt (firstR l)).length + (pt (l.length : Int)).length + (recs (fun _ => 0) l).length := by simp only [blkB, List.length_append]
  unfold block_Decode.f
  rw [get_eq _ hb k (by omega), Option.bind_some, g1]
  simp only [Int.toNat_natCast]
  rw [if_pos (by omega), if_pos (by omega), d1, get_eq _ (d1 ▸ bytes_drop hb _) k (by omega), Option.bind_some, g2]
  simp only
  rw [if_neg (by omega), if_pos (by omega), if_pos (by omega), show (((pt (firstR l)).length : Int) + ((pt (l.length : Int)).length : Int)).toNat = (pt (firstR l)).length + (pt (l.length : Int)).length by omega, d2, Int.toNat_natCast]
  have e := dgo_back k (by omega) (firstR l) [] (fun c hc => by cases hc) l 0 (fun _ => 0) [] (by simpa using h3) seqs0
  rw [List.append_nil] at e
  rw [e, Option.bind_some]
  simp only [List.nil_append, block_Decode.fin]
  rw [blkEnc_eq l (by omega) k (by omega), Option.bind_some, encL, if_pos h, if_pos rfl, bytes_Equal.f, Option.bind_some, if_pos (beq_self_eq_true _)]
theorem ref_sum (u d i : Nat) (hu : u < 2 ^ (7 * i)) (hi : i ≤ 9) (hd : d ≤ 127) (h9 : i = 9 → d ≤ 1) : IntKind.u64.wrap ((u : Int) + IntKind.u64.wrap ((d : Int) * ((2 ^ (7 * i) : Nat) : Int))) = ((u + d * 2 ^ (7 * i) : Nat) : Int) := by
  have key : u + d * 2 ^ (7 * i) < 2 ^ 64 := by
    rcases Nat.lt_or_ge i 9 with h | h
    · have h1 : d * 2 ^ (7 * i) ≤ 127 * 2 ^ 56 := Nat.mul_le_mul hd (Nat.pow_le_pow_right (by decide) (by omega))
      have h2 : u < 2 ^ 56 := Nat.lt_of_lt_of_le hu (Nat.pow_le_pow_right (by decide) (by omega))
      omega
    · have : i = 9 := by omega
      subst this
      have h1 : d * 2 ^ (7 * 9) ≤ 1 * 2 ^ 63 := Nat.mul_le_mul_right _ (h9 rfl)
      have h2 : u < 2 ^ 63 := hu
      omega
  generalize hq : d * 2 ^ (7 * i) = q at key
  rw [← Int.natCast_mul, hq, wraps_u64 ((q : Nat) : Int) (by omega) (by omega), ← Int.natCast_add]
  exact wraps_u64 _ (by omega) (by omega)
open NumPlain in
theorem ref_read_l0 (l : List Int) (hb : Bytes l) : ∀ (n i u k : Nat) (one : Int), i + n = 10 → 3 * n + 2 ≤ k → u < 2 ^ (7 * i) → (i < 10 → one = ((2 ^ (7 * i) : Nat) : Int)) → ferrymanref01_read.l0 k l (u : Int) one (i : Int) = some (rdOut u i (rdg n (l.drop i))) := by
  intro n
  induction n with
  | zero =>
    intro i u k one hi hk hu _
    obtain ⟨k, rfl⟩ : ∃ m, k = m + 2 := ⟨k - 2, by omega⟩
    simp only [ferrymanref01_read.l0]
    rw [show decide ((i : Int) < 10) = false by rw [decide_eq_false_iff_not]; omega, ite_self]
    simp only [ferrymanref01_read.j1]
    rfl
  | succ n ih =>
    intro i u k one hi hk hu ho
    obtain ⟨k, rfl⟩ : ∃ m, k = m + 3 := ⟨k - 3, by omega⟩
    have ho := ho (by omega)
    simp only [ferrymanref01_read.l0]
    cases hd : l.drop i with
    | nil =>
      have : l.length ≤ i := by
        rcases Nat.lt_or_ge i l.length with h1 | h1
        · rw [List.drop_eq_getElem_cons h1] at hd; cases hd
        · exact h1
      rw [if_neg (by omega)]
      simp only [ferrymanref01_read.j1]
      simp [rdg, rdOut]
    | cons c r =>
      obtain ⟨h1, h2, h3⟩ := rd_at l i c r hd
      have hc : 0 ≤ c ∧ c ≤ 255 := (hd ▸ bytes_drop hb i).head
      have hd7 : IntKind.u64.wrap (Int.tmod c 128) = ((c.toNat % 128 : Nat) : Int) := by
        rw [Int.tmod_eq_emod_of_nonneg hc.1, wraps_u64 _ (by omega) (by omega)]; omega
      rw [if_pos (by omega), show decide ((i : Int) < 10) = true by rw [decide_eq_true_eq]; omega]
      simp only [ferrymanref01_read.j1]
      rw [if_pos trivial, if_pos (by omega), if_pos (by omega), h1, hd7]
      clear hd7
      have hj : ∀ b : Bool, b = decide (n = 0 ∧ c.toNat % 128 > 1) → ferrymanref01_read.j2 (k + 1) l (u : Int) one (i : Int) ((c.toNat % 128 : Nat) : Int) b = some (rdOut u i (rdg (n + 1) (c :: r))) := by
        intro b hb1
        simp only [ferrymanref01_read.j2, rdg]
        cases b with
        | true =>
          have : n = 0 ∧ c.toNat % 128 > 1 := by simpa using hb1.symm
          rw [if_pos rfl, if_pos (show n = 0 ∧ c > 1 by omega)]
          rfl
        | false =>
          have hn : ¬ (n = 0 ∧ c.toNat % 128 > 1) := by simpa using hb1.symm
          rw [if_neg (by simp), if_pos (by omega), if_pos (by omega), h1]
          have hsum := ref_sum u (c.toNat % 128) i hu (by omega) (by omega) (by omega)
          rw [← ho] at hsum
          rw [hsum]
          clear hsum
          have hw : wrap64 ((i : Int) + 1) = ((i + 1 : Nat) : Int) := by unfold wrap64; omega
          by_cases hlt : c < 128
          · have hmod : c.toNat % 128 = c.toNat := Nat.mod_eq_of_lt (by omega)
            rw [if_neg (show ¬ (n = 0 ∧ c > 1) by omega), if_pos hlt, if_pos hlt, hmod, hw]
            by_cases hz : c = 0 ∧ n ≠ 9
            · rw [if_pos (show (i : Int) > 0 by omega), if_pos (show ((c.toNat : Nat) : Int) = 0 by omega), if_pos hz]; rfl
            · rw [if_neg hz]
              by_cases hi0 : (i : Int) > 0
              · rw [if_pos hi0, if_neg (show ¬ ((c.toNat : Nat) : Int) = 0 by omega)]; rfl
              · rw [if_neg hi0]; rfl
          · have hp : 2 ^ (7 * (i + 1)) = 2 ^ (7 * i) * 128 := by rw [show 7 * (i + 1) = 7 * i + 7 by omega, Nat.pow_add]
            have hm2 : (c.toNat % 128) * 2 ^ (7 * i) ≤ 127 * 2 ^ (7 * i) := Nat.mul_le_mul_right _ (by omega)
            rw [if_neg hlt, hw, ih (i + 1) _ k _ (by omega) (by omega) (by rw [hp]; omega) (fun h => by
              rw [ho, hp]
              have : 2 ^ (7 * i) ≤ 2 ^ 56 := Nat.pow_le_pow_right (by decide) (by omega)
              rw [show ((2 ^ (7 * i) : Nat) : Int) * 128 = ((2 ^ (7 * i) * 128 : Nat) : Int) by push_cast; rfl]
              exact wraps_u64 _ (by omega) (by omega)), h3]
            by_cases hn0 : n = 0
            · subst hn0
              simp only [rdg]
              rw [if_pos (show True ∧ c > 1 from ⟨trivial, by omega⟩)]
              rfl
            · rw [if_neg (show ¬ (n = 0 ∧ c > 1) by omega), if_neg (show ¬ (c = 0 ∧ n ≠ 9) by omega), if_neg hlt]
              cases rdg n r with
              | none => rfl
              | some p =>
                obtain ⟨v, m⟩ := p
                simp only [rdOut, Option.some.injEq, Prod.mk.injEq]
                refine ⟨?_, by omega⟩
                rw [hp]
                congr 1
                rw [Nat.add_mul, Nat.add_assoc]
                congr 1
                congr 1
                rw [Nat.mul_comm (2 ^ (7 * i)) 128, ← Nat.mul_assoc, Nat.mul_comm v 128]
      by_cases hi9 : i = 9
      · rw [if_pos (by omega)]
        refine hj _ ?_
        rw [decide_eq_decide]; omega
      · rw [if_neg (by omega)]
        refine hj _ ?_
        symm; rw [decide_eq_false_iff_not]; omega
open NumPlain in
theorem ref_read_eq (l : List Int) (hb : Bytes l) (k : Nat) (hk : 32 ≤ k) : ferrymanref01_read.f k l = some (((rdv l).1 : Int), ((rdv l).2 : Int)) := by
  unfold ferrymanref01_read.f
  have := ref_read_l0 l hb 10 0 0 k 1 (by omega) (by omega) (by decide) (fun _ => by decide)
  simp only [List.drop_zero] at this
  rw [show ((0 : Nat) : Int) = 0 from rfl] at this
  rw [this]
  unfold rdv
  cases rdg 10 l with
  | none => rfl
  | some p => obtain ⟨v, m⟩ := p; simp [rdOut]
open NumPlain in
theorem ref_get_eq (l : List Int) (hb : Bytes l) (k : Nat) (hk : 32 ≤ k) : ferrymanref01_Get.f k l = some (gt l) := by
  unfold ferrymanref01_Get.f
  rw [ref_read_eq l hb k hk]
  simp only [Option.bind_some]
  unfold gt
  have h3 := rdv_lt l hb
  by_cases h2 : (rdv l).2 = 0
  · rw [if_pos (by omega), if_pos (by have := h3.2.2 h2; omega), h2, h3.2.2 h2]; rfl
  · rw [if_neg (by omega)]
    by_cases h : (rdv l).1 < 4611686018427387904
    · rw [if_neg (by omega), if_pos h, wrap64_small _ (by omega)]
    · rw [if_pos (by omega), if_neg h]
/-! ### The reference's Put -/
open NumPlain in
theorem ref_groups_l0 (u : Nat) : ∀ (k : Nat) (x : List Int), u < 2 ^ 64 → (gr u).length ≤ k → x.length + (gr u).length ≤ 140737488355328 → ferrymanref01_groups.l0 k (u : Int) x = some (x ++ gr u) := by
  refine gr_ind (C := fun u => ∀ (k : Nat) (x : List Int), u < 2 ^ 64 → (gr u).length ≤ k → x.length + (gr u).length ≤ 140737488355328 → ferrymanref01_groups.l0 k (u : Int) x = some (x ++ gr u)) (fun u h => ?_) (fun u h ih => ?_) u
  · intro k x hu hk hx
    rw [gr_small h] at hk hx ⊢
    simp only [List.length_singleton] at hk hx
    obtain ⟨k, rfl⟩ : ∃ m, k = m + 1 := ⟨k - 1, by omega⟩
    rw [ferrymanref01_groups.l0, if_neg (by omega), if_pos (by omega), show (u : Int) % 256 = u by omega]
  · intro k x hu hk hx
    rw [gr_large h] at hk hx ⊢
    simp only [List.length_cons] at hk hx
    obtain ⟨k, rfl⟩ : ∃ m, k = m + 1 := ⟨k - 1, by omega⟩
    have e1 : IntKind.u64.wrap (Int.tdiv (u : Int) 128) = ((u / 128 : Nat) : Int) := by
      rw [Int.tdiv_eq_ediv_of_nonneg (by omega), show (u : Int) / 128 = ((u / 128 : Nat) : Int) by omega]
      exact wraps_u64 _ (by omega) (by omega)
    have e2 : (IntKind.u64.wrap ((Int.tmod (u : Int) 128) + 128)) % 256 = ((u % 128 + 128 : Nat) : Int) := by
      rw [Int.tmod_eq_emod_of_nonneg (by omega), show (u : Int) % 128 + 128 = ((u % 128 + 128 : Nat) : Int) by omega, wraps_u64 _ (by omega) (by omega)]
      omega
    rw [ferrymanref01_groups.l0, e1, e2, if_pos (by omega), if_pos (by omega)]
    clear e1 e2
    rw [ih k _ (by omega) (by omega) (by simp; omega), List.append_assoc]
    rfl
open NumPlain in
theorem ref_put_eq (k : Nat) (l : List Int) (n : Int) (hk : 12 ≤ k) (hl : l.length + 12 ≤ 140737488355328) : ferrymanref01_Put.f k l n = some (l ++ pt n) := by
  have hp := pt_len n
  unfold ferrymanref01_Put.f
  rw [if_pos (by simp; omega), List.nil_append, Option.bind_some]
  unfold pt at hp ⊢
  by_cases h0 : n < 0
  · rw [if_pos h0, if_neg (by omega), List.append_nil]
  · rw [if_neg h0]
    by_cases h1 : n ≥ 4611686018427387904
    · rw [if_pos h1, if_neg (by omega), List.append_nil]
    · rw [if_pos (by omega)] at hp
      rw [if_neg h1, if_pos (by omega), wraps_u64 _ (by omega) (by omega)]
      unfold ferrymanref01_groups.f
      obtain ⟨u, rfl⟩ := Int.eq_ofNat_of_zero_le (show 0 ≤ n by omega)
      simp only [Int.toNat_natCast] at hp ⊢
      rw [ref_groups_l0 u k [] (by omega) (by omega) (by simp; omega), List.nil_append, Option.bind_some, if_pos (by omega)]
open NumPlain in
theorem ref_zig_eq (n : Int) (h : I64 n) : ferrymanref01_Zig.f n = some ((zig n : Nat) : Int) := by
  unfold I64 at h
  unfold ferrymanref01_Zig.f zig
  by_cases h0 : 0 ≤ n
  · rw [if_pos h0, if_pos h0, wraps_u64 n h0 (by omega), wraps_u64 _ (by omega) (by omega)]
    congr 1; omega
  · have e : wrap64 (-(wrap64 (n + 1))) = -(n + 1) := by unfold wrap64; omega
    rw [if_neg (by omega), if_neg h0, e]
    clear e
    rw [wraps_u64 (-(n + 1)) (by omega) (by omega), wraps_u64 (-(n + 1) * 2) (by omega) (by omega), wraps_u64 _ (by omega) (by omega)]
    congr 1; omega
open NumPlain in
theorem ref_putS_eq (k : Nat) (l : List Int) (n : Int) (h : I64 n) (hk : 12 ≤ k) (hl : l.length + 12 ≤ 140737488355328) : ferrymanref01_PutSigned.f k l n = some (l ++ pS n) := by
  have hp := pS_len h
  unfold ferrymanref01_PutSigned.f ferrymanref01_groups.f
  unfold pS at hp ⊢
  rw [if_pos (by simp; omega), List.nil_append, Option.bind_some, ref_zig_eq n h, Option.bind_some, ref_groups_l0 _ k [] (zig_lt h) (by omega) (by simp; omega), List.nil_append, Option.bind_some, if_pos (by omega)]
open NumPlain in
theorem ref_zag_eq (u : Nat) (h : u < 2 ^ 64) : ferrymanref01_Zag.f (u : Int) = some (zag u) := by
  unfold ferrymanref01_Zag.f zag
  rw [Int.tmod_eq_emod_of_nonneg (by omega), Int.tdiv_eq_ediv_of_nonneg (by omega)]
  by_cases h0 : u % 2 = 0
  · rw [if_pos (by omega), if_pos h0, wraps_u64 _ (by omega) (by omega)]
    congr 1; unfold wrap64; omega
  · rw [if_neg (by omega), if_neg h0, wraps_u64 _ (by omega) (by omega)]
    congr 1; unfold wrap64; omega
open NumPlain in
theorem ref_getS_eq (l : List Int) (hb : Bytes l) (k : Nat) (hk : 32 ≤ k) : ferrymanref01_GetSigned.f k l = some (gS l) := by
  unfold ferrymanref01_GetSigned.f
  rw [ref_read_eq l hb k hk]
  simp only [Option.bind_some]
  unfold gS
  by_cases h : (rdv l).2 = 0
  · rw [if_pos (by omega), if_pos h]
  · rw [if_neg (by omega), if_neg h, ref_zag_eq _ (rdv_lt l hb).1]
    rfl
/-! ### The reference's operations -/
theorem ref_cut_eq (n : Int) : ferrymanref04_cut.f n = some (CodecPlain.cutP n) := by
  unfold ferrymanref04_cut.f CodecPlain.cutP
  repeat' split
  all_goals first | rfl | omega
theorem ref_fits_eq (c a b : Int) : ferrymanref04_Fits.f c a b = some (CodecPlain.fitsB c a b) := by
  unfold ferrymanref04_Fits.f CodecPlain.fitsB
  by_cases h0 : 0 ≤ c
  · rw [if_pos h0, decide_eq_true h0]
    by_cases h1 : c ≤ 10
    · rw [if_pos h1, decide_eq_true h1, ref_cut_eq, Option.bind_some]
      by_cases h2 : a = CodecPlain.cutP a
      · rw [if_pos h2, decide_eq_true h2, ref_cut_eq, Option.bind_some]; rw [Bool.true_and, Bool.true_and, Bool.true_and]; rfl
      · rw [if_neg h2, decide_eq_false h2]; simp
    · rw [if_neg h1, decide_eq_false h1]; simp
  · rw [if_neg h0, decide_eq_false h0]; simp
open NumPlain CodecPlain in
theorem ref_putOp_eq (k : Nat) (l : List Int) (c a b : Int) (ha : I64 a) (hb : I64 b) (hk : 12 ≤ k) (hl : l.length + 50 ≤ 140737488355328) : ferrymanref05_PutOp.f k l c a b = some (if fitsB c a b = true then (l ++ opB c a b, 0) else (l, 1)) := by
  have h1 := pt_len c; have h2 := pS_len ha
  unfold ferrymanref05_PutOp.f
  rw [if_pos (by simp; omega), List.nil_append, Option.bind_some, ref_fits_eq, Option.bind_some]
  by_cases h : fitsB c a b = true
  · rw [if_pos h, if_pos h, ref_put_eq k l c hk (by omega), Option.bind_some, ref_putS_eq k _ a ha hk (by rw [List.length_append]; omega), Option.bind_some, ref_putS_eq k _ b hb hk (by rw [List.length_append, List.length_append]; omega), Option.bind_some]
    simp [opB]
  · rw [if_neg h, if_neg h]
open NumPlain CodecPlain in
theorem ref_getOp_eq (l : List Int) (hb : Bytes l) (hl : l.length ≤ 1000000) (k : Nat) (hk : 32 ≤ k) : ferrymanref05_GetOp.f k l = some (gOp l) := by
  have b1 := gt_bd l hb
  have hb1 := bytes_drop hb (gt l).2.toNat
  have b2 := gS_bd _ hb1
  have hb2 := bytes_drop hb1 (gS (l.drop (gt l).2.toNat)).2.toNat
  have b3 := gS_bd _ hb2
  unfold ferrymanref05_GetOp.f gOp
  rw [ref_get_eq l hb k hk, Option.bind_some, if_pos b1.1, if_pos b1.2, ref_getS_eq _ hb1 k hk, Option.bind_some]
  dsimp only
  generalize gt l = p at *
  generalize gS (l.drop p.2.toNat) = q at *
  have hl1 : ((l.drop p.2.toNat).length : Int) = l.length - p.2 := by rw [List.length_drop]; omega
  have hl2 : (((l.drop p.2.toNat).drop q.2.toNat).length : Int) = l.length - p.2 - q.2 := by rw [List.length_drop]; omega
  have hd : l.drop (p.2 + q.2).toNat = (l.drop p.2.toNat).drop q.2.toNat := by rw [List.drop_drop]; congr 1; omega
  have hw : wrap64 (p.2 + q.2) = p.2 + q.2 := by unfold wrap64; omega
  rw [hw]
  clear hw
  rw [if_pos (by omega), if_pos (by omega), hd, ref_getS_eq _ hb2 k hk, Option.bind_some, ref_fits_eq, Option.bind_some]
  generalize gS ((l.drop p.2.toNat).drop q.2.toNat) = s at *
  have hw : wrap64 (p.2 + q.2 + s.2) = p.2 + q.2 + s.2 := by unfold wrap64; omega
  rw [hw]
  clear hw
  by_cases h1 : p.2 = 0
  · rw [if_pos h1, if_neg (fun e => by omega)]
  · by_cases h2 : q.2 = 0
    · rw [if_neg h1, if_pos h2, if_neg (fun e => by omega)]
    · by_cases h3 : s.2 = 0
      · rw [if_neg h1, if_neg h2, if_pos h3, if_neg (fun e => by omega)]
      · rw [if_neg h1, if_neg h2, if_neg h3]
        by_cases h4 : fitsB p.1 q.1 s.1 = true
        · rw [if_pos h4, if_pos ⟨by omega, by omega, by omega, h4⟩]
        · rw [if_neg h4, if_neg (fun e => h4 e.2.2.2)]
/-! ### The reference's records -/
theorem ref06_eq (x : S32) : ferrymanref06_Fits.f x.f0 x.f1 x.f2 x.f3.f0 x.f3.f1 x.f3.f2 x.f4 = some (fitsR x) := by
  unfold ferrymanref06_Fits.f fitsR
  rw [ref_fits_eq]
  simp only [Option.bind_some]
  cases CodecPlain.fitsB x.f3.f0 x.f3.f1 x.f3.f2 with
  | false => simp
  | true =>
    rw [if_pos rfl]
    by_cases h1 : 0 ≤ x.f0
    · rw [if_pos h1, decide_eq_true h1]
      by_cases h2 : x.f0 < 4611686018427387904
      · rw [if_pos h2, decide_eq_true h2]
        by_cases h5 : 0 ≤ x.f2
        · rw [if_pos h5, decide_eq_true h5]
          by_cases h6 : x.f2 < 4611686018427387904
          · rw [if_pos h6, decide_eq_true h6]
            by_cases h3 : 0 ≤ x.f1
            · rw [if_pos h3, decide_eq_true h3]
              by_cases h4 : x.f1 ≤ 64
              · rw [if_pos h4, decide_eq_true h4]
                by_cases h7 : -1125899906842624 ≤ x.f4
                · rw [if_pos h7, decide_eq_true h7]; simp
                · rw [if_neg h7, decide_eq_false h7]; simp
              · rw [if_neg h4, decide_eq_false h4]; simp
            · rw [if_neg h3, decide_eq_false h3]; simp
          · rw [if_neg h6, decide_eq_false h6]; simp
        · rw [if_neg h5, decide_eq_false h5]; simp
      · rw [if_neg h2, decide_eq_false h2]; simp
    · rw [if_neg h1, decide_eq_false h1]; simp
theorem ordB_nth {l : List S32} : ∀ {first : Int}, ordB first l = true → ∀ (i : Nat) (h : i < l.length), l[i].f0 = first + i := by
  induction l with
  | nil => intro _ _ i h; simp at h
  | cons y l ih =>
    intro first h i hi
    unfold ordB at h
    simp only [Bool.and_eq_true, decide_eq_true_eq] at h
    cases i with
    | zero => simp only [List.getElem_cons_zero]; omega
    | succ i =>
      simp only [List.getElem_cons_succ]
      have := ih h.2 i (by simpa using hi)
      omega
theorem refFits_l0 (l : List S32) (hl : l.length ≤ 1000000) : ∀ (n i k : Nat), i + n = l.length → n + 1 ≤ k → (0 < i → ∀ h : i - 1 < l.length, l[i - 1].f0 = firstR l + ((i - 1 : Nat) : Int) ∧ 0 ≤ l[i - 1].f0 ∧ l[i - 1].f0 < 4611686018427387904) → ferrymanref07_Fits.l0 k l (i : Int) = some (ordB (firstR l + i) (l.drop i)) := by
  intro n
  induction n with
  | zero =>
    intro i k hi hk _
    obtain ⟨k, rfl⟩ : ∃ m, k = m + 1 := ⟨k - 1, by omega⟩
    simp only [ferrymanref07_Fits.l0]
    rw [if_neg (by omega), List.drop_eq_nil_of_le (by omega)]
    rfl
  | succ n ih =>
    intro i k hi hk hf
    obtain ⟨k, rfl⟩ : ∃ m, k = m + 1 := ⟨k - 1, by omega⟩
    have hlt : i < l.length := by omega
    have hw1 : wrap64 ((i : Int) + 1) = ((i + 1 : Nat) : Int) := by unfold wrap64; omega
    simp only [ferrymanref07_Fits.l0]
    rw [hw1]
    clear hw1
    rw [if_pos (by omega), if_pos (by omega), rdR_nth l i hlt, ref06_eq, Option.bind_some, List.drop_eq_getElem_cons hlt]
    simp only [ordB]
    by_cases h : fitsR l[i] = true
    · have hx := ((fitsR_iff _).1 h).1
      rw [if_pos h, h, Bool.true_and]
      rcases Nat.eq_zero_or_pos i with h0 | h0
      · subst h0
        have e0 : l[0].f0 = firstR l := by rw [← firstR_eq l hlt, show (0 : Int) = ((0 : Nat) : Int) from rfl, rdR_nth l 0 hlt]
        rw [if_neg (by omega), ih 1 k (by omega) (by omega) (fun _ _ => ⟨by simp only [Nat.sub_self, Int.natCast_zero, Int.add_zero]; exact e0, hx⟩), decide_eq_true (by rw [e0]; omega), Bool.true_and, show firstR l + ((1 : Nat) : Int) = firstR l + ((0 : Nat) : Int) + 1 by omega]
      · obtain ⟨g0, g1, g2⟩ := hf h0 (by omega)
        have hw2 : wrap64 ((i : Int) - 1) = ((i - 1 : Nat) : Int) := by unfold wrap64; omega
        rw [if_pos (by omega), hw2]
        clear hw2
        rw [if_pos (by omega), if_pos (by omega), rdR_nth l (i - 1) (by omega)]
        have hw3 : wrap64 (l[i - 1].f0 + 1) = firstR l + i := by unfold wrap64; omega
        rw [hw3]
        clear hw3
        by_cases he : l[i].f0 = firstR l + i
        · rw [if_pos he, decide_eq_true he, Bool.true_and, ih (i + 1) k (by omega) (by omega) (fun _ _ => ⟨by simp only [Nat.add_sub_cancel]; exact he, hx⟩), show firstR l + (i : Int) + 1 = firstR l + ((i + 1 : Nat) : Int) by omega]
        · rw [if_neg he, decide_eq_false he]; simp
    · rw [if_neg h]; simp only [Bool.not_eq_true] at h; rw [h]; simp
theorem refFits_eq (l : List S32) (hl : l.length ≤ 1000000) (k : Nat) (hk : l.length + 2 ≤ k) : ferrymanref07_Fits.f k l = some (blkOk l) := by
  obtain ⟨k, rfl⟩ : ∃ m, k = m + 1 := ⟨k - 1, by omega⟩
  unfold ferrymanref07_Fits.f blkOk
  have h := refFits_l0 l hl l.length 0 k (by omega) (by omega) (fun h => by omega)
  rw [show ((0 : Nat) : Int) = 0 from rfl, Int.add_zero, List.drop_zero] at h
  by_cases h1 : (l.length : Int) < 1
  · rw [if_pos h1, ferrymanref07_Fits.j0, if_pos rfl, decide_eq_false (show ¬ 1 ≤ l.length by omega)]; simp
  · rw [if_neg h1, decide_eq_true (show 1 ≤ l.length by omega)]
    by_cases h2 : (l.length : Int) > 256
    · rw [decide_eq_true h2, ferrymanref07_Fits.j0, if_pos rfl, decide_eq_false (show ¬ l.length ≤ 256 by omega)]; simp
    · rw [decide_eq_false h2, ferrymanref07_Fits.j0, if_neg (by decide), h, decide_eq_true (show l.length ≤ 256 by omega)]; simp
/-- What each process's last one had, behind records. -/
def aft (f : Int → Int) (l : List S32) : Int → Int := l.foldl (fun f x => MapAid.upd f x.f1 x.f2) f
theorem aft_snoc (f : Int → Int) (l : List S32) (x : S32) : aft f (l ++ [x]) = MapAid.upd (aft f l) x.f1 x.f2 := by simp [aft]
theorem last_l0 (l : List S32) (p : Int) (hl : l.length ≤ 1000000) : ∀ (n k : Nat), n ≤ l.length → n + 1 ≤ k → ferrymanref07_last.l0 k l p ((n : Int) - 1) = some (aft (fun _ => 0) (l.take n) p) := by
  intro n
  induction n with
  | zero =>
    intro k _ hk
    obtain ⟨k, rfl⟩ : ∃ m, k = m + 1 := ⟨k - 1, by omega⟩
    simp only [ferrymanref07_last.l0]
    rw [if_neg (by omega), List.take_zero]
    rfl
  | succ n ih =>
    intro k hn hk
    obtain ⟨k, rfl⟩ : ∃ m, k = m + 1 := ⟨k - 1, by omega⟩
    have hlt : n < l.length := by omega
    have e0 : ((n + 1 : Nat) : Int) - 1 = (n : Int) := by omega
    have hw : wrap64 ((n : Int) - 1) = (n : Int) - 1 := by unfold wrap64; omega
    simp only [ferrymanref07_last.l0]
    rw [e0, hw]
    clear hw
    rw [if_pos (by omega), if_pos (by omega), if_pos (by omega), rdR_nth l n hlt, List.take_succ_eq_append_getElem hlt, aft_snoc]
    unfold MapAid.upd
    by_cases h : l[n].f1 = p
    · rw [if_pos h, if_pos h.symm]
    · rw [if_neg h, if_neg (fun e => h e.symm), ih k (by omega) (by omega)]
theorem last_eq (l : List S32) (p : Int) (hl : l.length ≤ 1000000) (k : Nat) (hk : l.length + 1 ≤ k) : ferrymanref07_last.f k l p = some (aft (fun _ => 0) l p) := by
  unfold ferrymanref07_last.f
  have hw : wrap64 ((l.length : Int) - 1) = (l.length : Int) - 1 := by unfold wrap64; omega
  rw [hw, last_l0 l p hl l.length k (Nat.le_refl _) hk, List.take_length]
theorem aft_seqs {l : List S32} (h : ∀ x ∈ l, fitsR x = true) : ∀ {f : Int → Int}, Seqs f → Seqs (aft f l) := by
  induction l with
  | nil => intro f hf; exact hf
  | cons x l ih =>
    intro f hf
    obtain ⟨_, _, ⟨b1, b2⟩, _⟩ := (fitsR_iff x).1 (h x List.mem_cons_self)
    exact ih (fun y hy => h y (List.mem_cons_of_mem _ hy)) (hf.upd b1 b2)
open NumPlain CodecPlain in
theorem refEnc_l0 (l : List S32) (h : ∀ x ∈ l, fitsR x = true) (hl : l.length ≤ 1000000) : ∀ (n i k : Nat) (b : List Int), i + n = l.length → n + l.length + 20 ≤ k → b.length + 58 * n + 100 ≤ 140737488355328 → ferrymanref07_Encode.l0 k l b (i : Int) = some (b ++ recs (aft (fun _ => 0) (l.take i)) (l.drop i), 0) := by
  intro n
  induction n with
  | zero =>
    intro i k b hi hk hb
    obtain ⟨k, rfl⟩ : ∃ m, k = m + 1 := ⟨k - 1, by omega⟩
    simp only [ferrymanref07_Encode.l0]
    rw [if_neg (by omega), List.drop_eq_nil_of_le (by omega)]
    simp [recs]
  | succ n ih =>
    intro i k b hi hk hb
    obtain ⟨k, rfl⟩ : ∃ m, k = m + 1 := ⟨k - 1, by omega⟩
    have hlt : i < l.length := by omega
    have hx := h l[i] (List.getElem_mem hlt)
    have hs := aft_seqs (l := l.take i) (fun x hx => h x (List.mem_of_mem_take hx)) seqs0
    generalize he : aft (fun _ => 0) (l.take i) = f at hs
    obtain ⟨⟨_, _⟩, ⟨a1, a2⟩, ⟨b1, b2⟩, c, ⟨d1, d2⟩⟩ := (fitsR_iff l[i]).1 hx
    obtain ⟨i1, i2, _, _⟩ := fits_i64 c
    obtain ⟨f0, f1⟩ := hs l[i].f1
    have g1 := pt_len l[i].f1
    have g2 := pS_len (n := l[i].f2 - f l[i].f1) (by unfold I64; omega)
    have g3 := opB_len (c := l[i].f3.f0) i1 i2
    have g4 := pS_len (n := l[i].f4) (by unfold I64; omega)
    have hw : wrap64 (l[i].f2 - f l[i].f1) = l[i].f2 - f l[i].f1 := by unfold wrap64; omega
    have hw1 : wrap64 ((i : Int) + 1) = ((i + 1 : Nat) : Int) := by unfold wrap64; omega
    simp only [ferrymanref07_Encode.l0]
    rw [hw1]
    clear hw1
    rw [if_pos (by omega), if_pos (by omega), rdR_nth l i hlt, ref_put_eq k b _ (by omega) (by omega), Option.bind_some, if_pos (by omega), Int.toNat_natCast, last_eq _ _ (by rw [List.length_take]; omega) k (by rw [List.length_take]; omega), Option.bind_some, he, hw]
    clear hw
    rw [ref_putS_eq k _ _ (by unfold I64; omega) (by omega) (by rw [List.length_append]; omega), Option.bind_some, ref_putOp_eq k _ _ _ _ i1 i2 (by omega) (by simp only [List.length_append]; omega), if_pos c, Option.bind_some, ref_putS_eq k _ _ (by unfold I64; omega) (by omega) (by simp only [List.length_append]; omega), Option.bind_some]
    rw [ih (i + 1) k _ (by omega) (by omega) (by simp only [List.length_append]; omega), List.take_succ_eq_append_getElem hlt, aft_snoc, he, List.drop_eq_getElem_cons hlt]
    simp [recs, recB]
open NumPlain CodecPlain in
theorem refEnc_eq (l : List S32) (hl : l.length ≤ 1000000) (k : Nat) (hk : 2 * l.length + 20 ≤ k) : ferrymanref07_Encode.f k l = some (encL l) := by
  unfold ferrymanref07_Encode.f encL
  rw [refFits_eq l hl k (by omega), Option.bind_some]
  by_cases h : blkOk l = true
  · rw [if_pos h, if_pos h]
    unfold blkOk at h
    simp only [Bool.and_eq_true, decide_eq_true_eq] at h
    obtain ⟨⟨h1, h2⟩, h3⟩ := h
    have g1 := pt_len (firstR l); have g2 := pt_len (l.length : Int)
    rw [if_pos (by omega), firstR_eq l (by omega), ref_put_eq k [] _ (by omega) (by simp), Option.bind_some, ref_put_eq k _ _ (by omega) (by simp; omega), Option.bind_some]
    have e := refEnc_l0 l (ordB_fits h3) hl l.length 0 k ([] ++ pt (firstR l) ++ pt (l.length : Int)) (by omega) (by omega) (by simp only [List.length_append, List.nil_append]; omega)
    rw [show ((0 : Nat) : Int) = 0 from rfl] at e
    rw [e]
    simp [blkB, aft]
  · rw [if_neg h, if_neg h]
/-! ### The reference's Decode -/
/-- What the reference's one tells. -/
def oneT (f : Int → Int) (l : List Int) : Int × Int × Int × Int × Int × Int × Int × Int :=
  if (gR l).2 = 0 then (0, 0, 0, 0, 0, 0, 0, 0) else (0, (gR l).1.f1, wrap64 (f (gR l).1.f1 + (gR l).1.f2), (gR l).1.f3.f0, (gR l).1.f3.f1, (gR l).1.f3.f2, (gR l).1.f4, (gR l).2)
open NumPlain CodecPlain in
theorem one_eq (l : List S32) (hl : l.length ≤ 1000000) (b : List Int) (hb : Bytes b) (hbl : b.length ≤ 1000000) (k : Nat) (hk : l.length + 40 ≤ k) : ferrymanref07_one.f k l b = some (oneT (aft (fun _ => 0) l) b) := by
  have b1 := gt_bd b hb
  have hb1 := bytes_drop hb (gt b).2.toNat
  have b2 := gS_bd _ hb1
  have hb2 := bytes_drop hb1 (gS (b.drop (gt b).2.toNat)).2.toNat
  have b3 := gOp_bd _ hb2
  have hb3 := bytes_drop hb2 (gOp ((b.drop (gt b).2.toNat).drop (gS (b.drop (gt b).2.toNat)).2.toNat)).2.2.2.toNat
  have b4 := gS_bd _ hb3
  have hl2 : ((b.drop (gt b).2.toNat).drop (gS (b.drop (gt b).2.toNat)).2.toNat).length ≤ 1000000 := by rw [List.length_drop, List.length_drop]; omega
  unfold ferrymanref07_one.f oneT gR
  rw [ref_get_eq b hb k (by omega), Option.bind_some, if_pos b1.1, if_pos b1.2, ref_getS_eq _ hb1 k (by omega), Option.bind_some]
  simp only [List.length_drop] at b2 b3 b4
  generalize hp : gt b = p at *
  generalize hq : gS (b.drop p.2.toNat) = q at *
  have hd1 : b.drop (p.2 + q.2).toNat = (b.drop p.2.toNat).drop q.2.toNat := by rw [List.drop_drop]; congr 1; omega
  have hw1 : wrap64 (p.2 + q.2) = p.2 + q.2 := by unfold wrap64; omega
  rw [hw1]
  clear hw1
  rw [if_pos (by omega), if_pos (by omega), hd1, ref_getOp_eq _ hb2 hl2 k (by omega), Option.bind_some]
  generalize ho : gOp ((b.drop p.2.toNat).drop q.2.toNat) = o at *
  have hd2 : b.drop (p.2 + q.2 + o.2.2.2).toNat = ((b.drop p.2.toNat).drop q.2.toNat).drop o.2.2.2.toNat := by rw [List.drop_drop, List.drop_drop]; congr 1; omega
  have hw2 : wrap64 (p.2 + q.2 + o.2.2.2) = p.2 + q.2 + o.2.2.2 := by unfold wrap64; omega
  rw [hw2]
  clear hw2
  rw [if_pos (by omega), if_pos (by omega), hd2, ref_getS_eq _ hb3 k (by omega), Option.bind_some]
  generalize hs : gS (((b.drop p.2.toNat).drop q.2.toNat).drop o.2.2.2.toNat) = s at *
  have hw3 : wrap64 (p.2 + q.2 + o.2.2.2 + s.2) = p.2 + q.2 + o.2.2.2 + s.2 := by unfold wrap64; omega
  rw [hw3]
  clear hw3
  unfold block_record.of
  by_cases z1 : p.2 = 0
  · rw [if_pos z1, if_pos (show p.2 = 0 ∨ q.2 = 0 ∨ o.2.2.2 = 0 ∨ s.2 = 0 from .inl z1), if_pos rfl]
  · by_cases z2 : q.2 = 0
    · rw [if_neg z1, if_pos z2, if_pos (show p.2 = 0 ∨ q.2 = 0 ∨ o.2.2.2 = 0 ∨ s.2 = 0 from .inr (.inl z2)), if_pos rfl]
    · by_cases z3 : o.2.2.2 = 0
      · rw [if_neg z1, if_neg z2, if_pos z3, if_pos (show p.2 = 0 ∨ q.2 = 0 ∨ o.2.2.2 = 0 ∨ s.2 = 0 from .inr (.inr (.inl z3))), if_pos rfl]
      · by_cases z4 : s.2 = 0
        · rw [if_neg z1, if_neg z2, if_neg z3, if_pos z4, if_pos (show p.2 = 0 ∨ q.2 = 0 ∨ o.2.2.2 = 0 ∨ s.2 = 0 from .inr (.inr (.inr z4))), if_pos rfl]
        · rw [if_neg z1, if_neg z2, if_neg z3, if_neg z4, last_eq l p.1 hl k (by omega), Option.bind_some, if_neg (show ¬ (p.2 = 0 ∨ q.2 = 0 ∨ o.2.2.2 = 0 ∨ s.2 = 0) by omega)]
          simp only
          rw [if_neg (by omega)]
/-- The reference's answer: nothing, or records whose bytes these are. -/
def Fine (b : List Int) (r : List S32 × Int) : Prop := r = ([], 3) ∨ (r.2 = 0 ∧ blkOk r.1 = true ∧ blkB r.1 = b)
open NumPlain CodecPlain in
theorem refDec_tot (b : List Int) (hb : Bytes b) (hbl : b.length ≤ 10000) (first many : Int) (hm : many ≤ 256) : ∀ (n k : Nat) (l : List S32) (at_ : Int), (l.length : Int) + n = many → n + 1000 ≤ k → 0 ≤ at_ → at_ ≤ b.length → ∃ r, ferrymanref07_Decode.l0 k b first many l at_ (l.length : Int) = some r ∧ Fine b r := by
  intro n
  induction n with
  | zero =>
    intro k l at_ hn hk h0 h1
    obtain ⟨k, rfl⟩ : ∃ m, k = m + 1 := ⟨k - 1, by omega⟩
    simp only [ferrymanref07_Decode.l0]
    rw [if_neg (by omega), refEnc_eq l (by omega) k (by omega), Option.bind_some, encL]
    by_cases hok : blkOk l = true
    · rw [if_pos hok, if_pos rfl]
      by_cases he : blkB l = b
      · rw [if_pos (by rw [he])]
        exact ⟨_, rfl, .inr ⟨rfl, hok, he⟩⟩
      · rw [if_neg (by rw [str_inj (blkB_bytes l) hb]; exact he)]
        exact ⟨_, rfl, .inl rfl⟩
    · rw [if_neg hok, if_neg (by decide)]
      exact ⟨_, rfl, .inl rfl⟩
  | succ n ih =>
    intro k l at_ hn hk h0 h1
    obtain ⟨k, rfl⟩ : ∃ m, k = m + 1 := ⟨k - 1, by omega⟩
    have hbd := bytes_drop hb at_.toNat
    obtain ⟨g0, g1⟩ := gR_bd (b.drop at_.toNat) hbd
    simp only [ferrymanref07_Decode.l0]
    rw [if_pos (by omega), if_pos h0, if_pos h1, one_eq l (by omega) _ hbd (by rw [List.length_drop]; omega) k (by omega), Option.bind_some, oneT]
    by_cases hz : (gR (b.drop at_.toNat)).2 = 0
    · rw [if_pos hz, if_pos rfl]
      exact ⟨_, rfl, .inl rfl⟩
    · obtain ⟨g2, _, _⟩ := g1 hz
      rw [List.length_drop] at g2
      rw [if_neg hz]
      simp only
      rw [if_neg hz, if_pos (by omega)]
      have hw1 : wrap64 ((l.length : Int) + 1) = ((l.length + 1 : Nat) : Int) := by unfold wrap64; omega
      have hw2 : wrap64 (at_ + (gR (b.drop at_.toNat)).2) = at_ + (gR (b.drop at_.toNat)).2 := by unfold wrap64; omega
      rw [hw1, hw2]
      clear hw1 hw2
      generalize hy : l ++ [(⟨wrap64 (first + (l.length : Int)), (gR (b.drop at_.toNat)).1.f1, wrap64 (aft (fun _ => 0) l (gR (b.drop at_.toNat)).1.f1 + (gR (b.drop at_.toNat)).1.f2), ⟨(gR (b.drop at_.toNat)).1.f3.f0, (gR (b.drop at_.toNat)).1.f3.f1, (gR (b.drop at_.toNat)).1.f3.f2⟩, (gR (b.drop at_.toNat)).1.f4⟩ : S32)] = l'
      have hl' : l'.length = l.length + 1 := by rw [← hy, List.length_append, List.length_singleton]
      rw [← hl']
      exact ih k l' _ (by omega) (by omega) (by omega) (by omega)
open NumPlain CodecPlain in
theorem refDec_back (b : List Int) (hb : Bytes b) (hbl : b.length ≤ 100000) (xs : List S32) (hx : blkOk xs = true) (hbx : blkB xs = b) : ∀ (ys l : List S32) (k : Nat) (at_ : Int), l ++ ys = xs → ordB (firstR xs + (l.length : Int)) ys = true → ys.length + 1000 ≤ k → 0 ≤ at_ → at_ ≤ b.length → b.drop at_.toNat = recs (aft (fun _ => 0) l) ys → Seqs (aft (fun _ => 0) l) → ferrymanref07_Decode.l0 k b (firstR xs) (xs.length : Int) l at_ (l.length : Int) = some (xs, 0) := by
  have h256 := (blkOk_facts hx).2.1
  intro ys
  induction ys with
  | nil =>
    intro l k at_ hl ho hk h0 h1 hd hs
    obtain ⟨k, rfl⟩ : ∃ m, k = m + 1 := ⟨k - 1, by omega⟩
    rw [List.append_nil] at hl
    subst hl
    simp only [ferrymanref07_Decode.l0]
    rw [if_neg (by omega), refEnc_eq l (by omega) k (by simp at hk; omega), Option.bind_some, encL, if_pos hx, if_pos rfl, if_pos (by rw [hbx])]
  | cons x ys ih =>
    intro l k at_ hl ho hk h0 h1 hd hs
    obtain ⟨k, rfl⟩ : ∃ m, k = m + 1 := ⟨k - 1, by omega⟩
    have hlen : xs.length = l.length + (ys.length + 1) := by rw [← hl, List.length_append, List.length_cons]
    unfold ordB at ho
    simp only [Bool.and_eq_true, decide_eq_true_eq] at ho
    obtain ⟨⟨hfx, e0⟩, hr⟩ := ho
    obtain ⟨⟨c1, c2⟩, ⟨a1, a2⟩, ⟨b1, b2⟩, c, ⟨d1, d2⟩⟩ := (fitsR_iff x).1 hfx
    have hone := one_eq l (by omega) (b.drop at_.toNat) (bytes_drop hb at_.toNat) (by rw [List.length_drop]; omega) k (by omega)
    have hsn : aft (fun _ => 0) (l ++ [x]) = MapAid.upd (aft (fun _ => 0) l) x.f1 x.f2 := aft_snoc _ _ _
    have hih := ih (l ++ [x]) k
    generalize aft (fun _ => 0) l = A at *
    obtain ⟨f0, f1⟩ := hs x.f1
    have hg : gR (b.drop at_.toNat) = (⟨0, x.f1, x.f2 - A x.f1, x.f3, x.f4⟩, ((recB (A x.f1) x).length : Int)) := by rw [hd]; exact gR_back hfx (hs x.f1) _
    have hpos : 1 ≤ (recB (A x.f1) x).length := by
      have := pt_pos (n := x.f1) a1 (by omega)
      simp only [recB, List.length_append]; omega
    have hdl := congrArg List.length hd
    simp only [recs, List.length_append, List.length_drop] at hdl
    have hdd : b.drop (at_.toNat + (recB (A x.f1) x).length) = recs (MapAid.upd A x.f1 x.f2) ys := by
      rw [← List.drop_drop, hd]
      simp only [recs]
      rw [List.drop_left]
    rw [List.length_cons] at hk
    have hstep : ferrymanref07_Decode.l0 (k + 1) b (firstR xs) (xs.length : Int) l at_ (l.length : Int) = ferrymanref07_Decode.l0 k b (firstR xs) (xs.length : Int) (l ++ [x]) (at_ + ((recB (A x.f1) x).length : Int)) ((l.length + 1 : Nat) : Int) := by
      have hz : ¬ (gR (b.drop at_.toNat)).2 = 0 := by rw [hg]; simp only; omega
      have hlt : l.length < 2513169434916 := by omega
      have hn : (l.length : Int) < (xs.length : Int) := by omega
      have e1 : wrap64 ((l.length : Int) + 1) = ((l.length + 1 : Nat) : Int) := by
        clear hdl hdd hg hone hih hsn hd
        unfold wrap64; omega
      have e2 : wrap64 (at_ + ((recB (A x.f1) x).length : Int)) = at_ + ((recB (A x.f1) x).length : Int) := by
        clear hdd hg hone hih hsn hd
        generalize (recB (A x.f1) x).length = R at *
        generalize (recs (MapAid.upd A x.f1 x.f2) ys).length = R2 at *
        unfold wrap64; omega
      have e3 : wrap64 (A x.f1 + (x.f2 - A x.f1)) = x.f2 := by
        clear hdl hdd hg hone hih hsn hd
        unfold wrap64; omega
      have e4 : wrap64 (firstR xs + (l.length : Int)) = x.f0 := by
        rw [← e0]
        clear hdl hdd hg hone hih hsn hd e0
        unfold wrap64; omega
      simp only [ferrymanref07_Decode.l0]
      rw [if_pos hn, if_pos h0, if_pos h1, hone, Option.bind_some, oneT, if_neg hz]
      simp only
      rw [if_neg hz, if_pos hlt, hg]
      simp only
      rw [e1, e2, e3, e4]
    have hl1 : (l ++ [x]).length = l.length + 1 := by rw [List.length_append, List.length_singleton]
    rw [hstep]
    have h9 := hih (at_ + ((recB (A x.f1) x).length : Int)) (by rw [← hl]; simp) (by rw [hl1, show firstR xs + ((l.length + 1 : Nat) : Int) = firstR xs + (l.length : Int) + 1 by omega]; exact hr) (by omega) (by omega) (by omega) (by
      rw [hsn, show (at_ + ((recB (A x.f1) x).length : Int)).toNat = at_.toNat + (recB (A x.f1) x).length by omega]
      exact hdd) (by rw [hsn]; exact hs.upd b1 b2)
    rw [hl1] at h9
    exact h9
open NumPlain CodecPlain in
theorem refDec_once (b : List Int) (hb : Bytes b) (hbl : b.length ≤ 10000) (k : Nat) (hk : 2000 ≤ k) : ∃ r, ferrymanref07_Decode.f k b = some r ∧ Fine b r := by
  obtain ⟨k, rfl⟩ : ∃ m, k = m + 1 := ⟨k - 1, by omega⟩
  have b1 := gt_bd b hb
  have hb1 := bytes_drop hb (gt b).2.toNat
  have b2 := gt_bd _ hb1
  rw [List.length_drop] at b2
  have jt : ∀ a c d e, ∃ r, ferrymanref07_Decode.j0 (k + 1) b a c d e true = some r ∧ Fine b r := fun a c d e => ⟨([], 3), by rw [ferrymanref07_Decode.j0, if_pos rfl], .inl rfl⟩
  unfold ferrymanref07_Decode.f
  rw [ref_get_eq b hb (k + 1) (by omega), Option.bind_some, if_pos b1.1, if_pos b1.2, ref_get_eq _ hb1 (k + 1) (by omega), Option.bind_some]
  generalize gt (b.drop (gt b).2.toNat) = q at *
  generalize gt b = p at *
  by_cases z1 : p.2 = 0
  · rw [if_pos z1]; exact jt _ _ _ _
  · rw [if_neg z1]
    by_cases z2 : q.2 = 0
    · rw [if_pos z2]; exact jt _ _ _ _
    · rw [if_neg z2]
      by_cases z3 : q.1 < 1
      · rw [if_pos z3]; exact jt _ _ _ _
      · rw [if_neg z3]
        by_cases z4 : q.1 > 256
        · rw [decide_eq_true z4]; exact jt _ _ _ _
        · have hw : wrap64 (p.2 + q.2) = p.2 + q.2 := by unfold wrap64; omega
          rw [decide_eq_false z4, ferrymanref07_Decode.j0, if_neg (by decide), hw]
          clear hw
          exact refDec_tot b hb hbl p.1 q.1 (by omega) q.1.toNat k [] (p.2 + q.2) (by simp; omega) (by omega) (by omega) (by omega)
open NumPlain CodecPlain in
theorem refDec_of {l : List S32} (h : blkOk l = true) (k : Nat) (hk : 2000 ≤ k) : ferrymanref07_Decode.f k (blkB l) = some (l, 0) := by
  obtain ⟨k, rfl⟩ : ∃ m, k = m + 1 := ⟨k - 1, by omega⟩
  obtain ⟨h1, h2, h3, h4, h5⟩ := blkOk_facts h
  have hb := blkB_bytes l
  have e1 : blkB l = pt (firstR l) ++ (pt (l.length : Int) ++ recs (fun _ => 0) l) := by simp [blkB]
  have g1 : gt (blkB l) = (firstR l, ((pt (firstR l)).length : Int)) := by rw [e1]; exact gt_pt h4 h5 _
  have d1 : (blkB l).drop (pt (firstR l)).length = pt (l.length : Int) ++ recs (fun _ => 0) l := by rw [e1, List.drop_left]
  have g2 : gt (pt (l.length : Int) ++ recs (fun _ => 0) l) = ((l.length : Int), ((pt (l.length : Int)).length : Int)) := gt_pt (by omega) (by omega) _
  have d2 : (blkB l).drop ((pt (firstR l)).length + (pt (l.length : Int)).length) = recs (fun _ => 0) l := by rw [← List.drop_drop, d1, List.drop_left]
  have p1 := pt_pos h4 h5
  have p2 := pt_pos (n := (l.length : Int)) (by omega) (by omega)
  have q1 := pt_len (firstR l)
  have q2 := pt_len (l.length : Int)
  have hlen : (blkB l).length = (pt (firstR l)).length + (pt (l.length : Int)).length + (recs (fun _ => 0) l).length := by simp only [blkB, List.length_append]
  have hrl := recs_len l _ seqs0 (ordB_fits h3)
  unfold ferrymanref07_Decode.f
  rw [ref_get_eq _ hb (k + 1) (by omega), Option.bind_some, g1]
  simp only [Int.toNat_natCast]
  rw [if_pos (by omega), if_pos (by omega), d1, ref_get_eq _ (d1 ▸ bytes_drop hb _) (k + 1) (by omega), Option.bind_some, g2]
  simp only
  have hw : wrap64 (((pt (firstR l)).length : Int) + ((pt (l.length : Int)).length : Int)) = ((pt (firstR l)).length : Int) + ((pt (l.length : Int)).length : Int) := by unfold wrap64; omega
  rw [if_neg (by omega), if_neg (by omega), if_neg (by omega), decide_eq_false (show ¬ (l.length : Int) > 256 by omega), ferrymanref07_Decode.j0, if_neg (by decide), hw]
  clear hw
  have e := refDec_back (blkB l) hb (by omega) l h rfl l [] k (((pt (firstR l)).length : Int) + ((pt (l.length : Int)).length : Int)) rfl (by simpa using h3) (by omega) (by omega) (by omega) (by rw [show (((pt (firstR l)).length : Int) + ((pt (l.length : Int)).length : Int)).toNat = (pt (firstR l)).length + (pt (l.length : Int)).length by omega, d2]; rfl) seqs0
  exact e
open NumPlain CodecPlain in
theorem BlockDecodes : ferrymanlaw07_BlockDecodes.Pure := by
  intro b _ _ hb0
  have hb := bytes_of hb0
  refine ⟨2500, ?_⟩
  unfold ferrymanlaw07_BlockDecodes.f
  rw [awake_eq 2500 (by omega), Option.bind_some]
  by_cases h : (b.length : Int) > 3000
  · rw [if_pos h]
  · rw [if_neg h]
    obtain ⟨l, e, hd, hh⟩ := dec_once b hb (by omega) 2500 (by omega)
    obtain ⟨r, hr, hf⟩ := refDec_once b hb (by omega) 2500 (by omega)
    have key : (l, e) = r := by
      rcases hh with ⟨rfl, rfl⟩ | ⟨rfl, hok, hbl⟩
      · rcases hf with rfl | ⟨h0, h1, h2⟩
        · rfl
        · have := dec_back h1 2500 (by omega)
          rw [h2, hd] at this
          have e2 := congrArg Prod.snd (Option.some.inj this)
          exact absurd e2 (by simp)
      · have := refDec_of hok 2500 (by omega)
        rw [hbl, hr] at this
        exact (Option.some.inj this).symm
    rw [hd, Option.bind_some, hr, Option.bind_some, ← key]
    have hl : l.length ≤ 256 := by
      rcases hh with ⟨rfl, _⟩ | ⟨_, hok, _⟩
      · simp
      · exact (blkOk_facts hok).2.1
    obtain ⟨t, ht, htt⟩ := same_eq l l (by omega) 2500 (by omega)
    rw [ht, Option.bind_some, if_pos rfl, if_pos (htt.2 rfl)]
    simp
end Go.Proofs.Ytecddphmnoegdaa.Pure
namespace Go.Proofs.Ytecddphmnoegdaa.PrintWords
/-- The printed row asks for this fact by this name. -/
abbrev sized_ints := @Go.Proofs.YtecddphmnoegdaaW.PrintWords.sized_ints
end Go.Proofs.Ytecddphmnoegdaa.PrintWords
