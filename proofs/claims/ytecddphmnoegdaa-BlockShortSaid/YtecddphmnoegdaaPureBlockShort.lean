/- What this text proves: each record of a process that goes on by one takes two bytes for that, and as many as its operation and its response need; conditions: none beyond the statement's own. -/
import Derived.Test.YtecddphmnoegdaaQBlockShortx
import Derived.Test.YtecddphmnoegdaaCodecPlain
import Derived.OpenShut
namespace Go.Proofs.Ytecddphmnoegdaa.Pure
open Go.RowKit Go.Proofs.Ytecddphmnoegdaa.QBlockShort Go.Proofs.YtecddphmnoegdaaW.PrintWords Go.Proofs.YtecddphmnoegdaaW.PrintLast Go.Proofs.YtecddphmnoegdaaW.PrintMore
/-! ### Numbers: bits -/
theorem wraps_u64 (n : Int) (h0 : 0 ≤ n) (h1 : n < 2 ^ 64) : IntKind.u64.wrap n = n := by
  have : IntKind.u64.wrap n = n % 18446744073709551616 := by simp [IntKind.wrap, IntKind.bits, IntKind.signed]
  rw [this]; omega
theorem wrap_u64 (n : Int) : IntKind.u64.wrap n = n % 18446744073709551616 := by simp [IntKind.wrap, IntKind.bits, IntKind.signed]
theorem bits_or_comm (k : IntKind) (x y : Int) : Go.bits .or k x y = Go.bits .or k y x := by
  unfold Go.bits; simp only; rw [BitVec.or_comm]
theorem or128 (x : Int) : Go.bits .or .u8 (x % 256) 128 = x % 128 + 128 := by
  have : ∀ c : Fin 256, Go.bits .or .u8 ((c.val : Nat) : Int) 128 = ((c.val : Nat) : Int) % 128 + 128 := by decide +kernel
  have h2 := this ⟨(x % 256).toNat, by omega⟩
  simp only at h2
  rw [show (((x % 256).toNat : Nat) : Int) = x % 256 by omega] at h2
  rw [h2]; omega
theorem and127 (c : Int) (h0 : 0 ≤ c) (h1 : c ≤ 255) : Go.bits .and .u8 c 127 = c % 128 := by
  have := Go.bits_mask .u8 8 (by decide) Go.wraps_u8 7 (by decide) c h0 (by omega)
  simpa using this
theorem and1 (u : Int) (h0 : 0 ≤ u) (h1 : u < 18446744073709551616) : Go.bits .and .u64 u 1 = u % 2 := by
  have := Go.bits_mask .u64 64 (by decide) wraps_u64 1 (by decide) u h0 (by omega)
  simpa using this
theorem or_shl (u c i : Nat) (hi : i ≤ 63) (hu : u < 2 ^ i) (hc : c * 2 ^ i < 2 ^ 64) : Go.bits .or .u64 (u : Int) (shl .u64 (c : Int) (i : Int)) = ((u + c * 2 ^ i : Nat) : Int) := by
  have e : shl .u64 (c : Int) (i : Int) = ((c * 2 ^ i : Nat) : Int) := by
    unfold shl
    rw [show min ((i : Int)).toNat IntKind.u64.bits = i by simp only [Int.toNat_natCast]; exact Nat.min_eq_left (by show i ≤ 64; omega)]
    rw [show ((c : Int) * 2 ^ i) = ((c * 2 ^ i : Nat) : Int) by push_cast; rfl]
    exact wraps_u64 _ (by omega) (by exact_mod_cast hc)
  have h2 : (2 : Nat) ^ i ≤ 2 ^ 63 := Nat.pow_le_pow_right (by decide) hi
  rw [e, bits_or_comm, Go.bits_join .u64 64 (by decide) wraps_u64 i _ _ (by omega) (by exact_mod_cast Nat.mul_mod_left c (2 ^ i)) (by exact_mod_cast hc) (by omega) (by exact_mod_cast hu) (by omega)]
  push_cast; omega
theorem xor_u64 (x y : Int) : Go.bits .xor .u64 x y = ((BitVec.ofInt 64 x ^^^ BitVec.ofInt 64 y).toNat : Int) := by
  have e : Go.bits .xor .u64 x y = IntKind.u64.wrap ((BitVec.ofInt 64 x ^^^ BitVec.ofInt 64 y).toNat : Int) := rfl
  have := (BitVec.ofInt 64 x ^^^ BitVec.ofInt 64 y).isLt
  rw [e, wrap_u64]; omega
theorem xor_i64 (x y : Int) : Go.bits .xor .i64 x y = (((BitVec.ofInt 64 x ^^^ BitVec.ofInt 64 y).toNat : Int) + 9223372036854775808) % 18446744073709551616 - 9223372036854775808 := by
  have e : Go.bits .xor .i64 x y = IntKind.i64.wrap ((BitVec.ofInt 64 x ^^^ BitVec.ofInt 64 y).toNat : Int) := rfl
  rw [e, Go.IntKind.wrap_i64]
theorem xor_ones (n : Int) : Go.bits .xor .u64 n 18446744073709551615 = 18446744073709551615 - n % 18446744073709551616 := by
  rw [xor_u64, show BitVec.ofInt 64 18446744073709551615 = BitVec.allOnes 64 by decide, BitVec.xor_allOnes, BitVec.toNat_not, BitVec.toNat_ofInt]
  omega
theorem xor_zero (n : Int) : Go.bits .xor .u64 n 0 = n % 18446744073709551616 := by
  rw [xor_u64, show BitVec.ofInt 64 0 = 0#64 by decide, BitVec.xor_zero, BitVec.toNat_ofInt]
  omega
theorem xor_ones_i (n : Int) (h : NumPlain.I64 n) : Go.bits .xor .i64 n (-1) = -n - 1 := by
  unfold NumPlain.I64 at h
  rw [xor_i64, show BitVec.ofInt 64 (-1) = BitVec.allOnes 64 by decide, BitVec.xor_allOnes, BitVec.toNat_not, BitVec.toNat_ofInt]
  omega
theorem xor_zero_i (n : Int) (h : NumPlain.I64 n) : Go.bits .xor .i64 n 0 = n := by
  unfold NumPlain.I64 at h
  rw [xor_i64, show BitVec.ofInt 64 0 = 0#64 by decide, BitVec.xor_zero, BitVec.toNat_ofInt]
  omega
theorem i64_of {a : Int} (h : (Lit.int .i64 a).wf = true) : NumPlain.I64 a := Go.bounds_i64 h
/-! ### Put -/
open NumPlain in
theorem groups_l0 (u : Nat) : ∀ (k : Nat) (x : List Int), (gr u).length ≤ k → x.length + (gr u).length ≤ 140737488355328 → num_groups.l0 k x (u : Int) = some (x ++ gr u) := by
  refine gr_ind (C := fun u => ∀ (k : Nat) (x : List Int), (gr u).length ≤ k → x.length + (gr u).length ≤ 140737488355328 → num_groups.l0 k x (u : Int) = some (x ++ gr u)) (fun u h => ?_) (fun u h ih => ?_) u
  · intro k x hk hx
    rw [gr_small h] at hk hx ⊢
    simp only [List.length_singleton] at hk hx
    obtain ⟨k, rfl⟩ : ∃ m, k = m + 1 := ⟨k - 1, by omega⟩
    simp only [num_groups.l0]
    rw [if_neg (by omega), if_pos (by omega), show (u : Int) % 256 = u by omega]
  · intro k x hk hx
    rw [gr_large h] at hk hx ⊢
    simp only [List.length_cons] at hk hx
    obtain ⟨k, rfl⟩ : ∃ m, k = m + 1 := ⟨k - 1, by omega⟩
    simp only [num_groups.l0]
    rw [if_pos (by omega), if_pos (by omega), or128, show (u : Int) / 128 = ((u / 128 : Nat) : Int) by omega,
      ih k _ (by omega) (by simp; omega), List.append_assoc]
    rw [show (u : Int) % 128 + 128 = ((u % 128 + 128 : Nat) : Int) by omega]
    rfl
open NumPlain in
theorem put_eq (k : Nat) (l : List Int) (n : Int) (hk : 12 ≤ k) (hl : l.length + 12 ≤ 140737488355328) : num_Put.f k l n = some (l ++ pt n) := by
  have hp := pt_len n
  unfold num_Put.f
  unfold pt at hp ⊢
  by_cases h0 : n < 0
  · rw [if_pos h0, if_neg (by omega), List.append_nil]
  · rw [if_neg h0]
    by_cases h1 : n ≥ 4611686018427387904
    · rw [if_pos h1, if_neg (by omega), List.append_nil]
    · rw [if_pos (by omega)] at hp
      rw [if_neg h1, if_pos (by omega), wraps_u64 _ (by omega) (by omega)]
      unfold num_groups.f
      obtain ⟨u, rfl⟩ := Int.eq_ofNat_of_zero_le (show 0 ≤ n by omega)
      simp only [Int.toNat_natCast] at hp ⊢
      rw [groups_l0 u k l (by omega) (by omega)]
      rfl
/-! ### Zig, Zag -/
open NumPlain in
theorem zig_eq (n : Int) (h : I64 n) : num_Zig.f n = some ((zig n : Nat) : Int) := by
  unfold I64 at h
  unfold num_Zig.f zig
  by_cases h0 : 0 ≤ n
  · rw [if_pos h0, show n / 9223372036854775808 = 0 by omega, wraps_u64 0 (by omega) (by omega), xor_zero, wraps_u64 n h0 (by omega), wrap_u64]
    congr 1; omega
  · rw [if_neg h0, show n / 9223372036854775808 = -1 by omega, show IntKind.u64.wrap (-1) = 18446744073709551615 by rw [wrap_u64]; omega, xor_ones, wrap_u64, wrap_u64]
    congr 1; omega
/-! ### Strings of bytes -/
theorem str_list (l : List Int) : (strOfNums l).toList = l.map fun n => UInt8.ofNat n.toNat := by rw [ByteArray.toList_eq]; rfl
theorem u8_inj {a b : Int} (ha : 0 ≤ a ∧ a ≤ 255) (hb : 0 ≤ b ∧ b ≤ 255) (h : UInt8.ofNat a.toNat = UInt8.ofNat b.toNat) : a = b := by
  have := congrArg UInt8.toNat h
  simp only [UInt8.toNat_ofNat'] at this
  omega
theorem map_inj : ∀ {a b : List Int}, NumPlain.Bytes a → NumPlain.Bytes b → (a.map fun n => UInt8.ofNat n.toNat) = (b.map fun n => UInt8.ofNat n.toNat) → a = b
  | [], [], _, _, _ => rfl
  | [], _ :: _, _, _, h => by simp at h
  | _ :: _, [], _, _, h => by simp at h
  | x :: a, y :: b, ha, hb, h => by
    simp only [List.map_cons, List.cons.injEq] at h
    rw [u8_inj ha.head hb.head h.1, map_inj ha.tail hb.tail h.2]
theorem str_inj {a b : List Int} (ha : NumPlain.Bytes a) (hb : NumPlain.Bytes b) : (strOfNums a).toList = (strOfNums b).toList ↔ a = b := by
  constructor
  · intro h; rw [str_list, str_list] at h; exact map_inj ha hb h
  · intro h; rw [h]
theorem str_extract (l : List Int) (n : Nat) : ((strOfNums l).extract 0 n).toList = (strOfNums (l.take n)).toList := by
  rw [ByteArray.toList_eq, ByteArray.toList_eq, ByteArray.data_extract, Array.toList_extract]
  simp [strOfNums, List.extract_eq_take_drop]
theorem bytes_take {l : List Int} (h : NumPlain.Bytes l) (n : Nat) : NumPlain.Bytes (l.take n) := fun c hc => h c (List.mem_of_mem_take hc)
theorem bytes_app {a b : List Int} (ha : NumPlain.Bytes a) (hb : NumPlain.Bytes b) : NumPlain.Bytes (a ++ b) := fun c hc => by
  rcases List.mem_append.1 hc with h | h
  · exact ha c h
  · exact hb c h
theorem bytes_of {l : List Int} (h : ∀ x ∈ l, (Lit.int .u8 x).wf = true) : NumPlain.Bytes l := fun c hc => Go.bounds_u8 (h c hc)
open NumPlain in
theorem putS_eq (k : Nat) (l : List Int) (n : Int) (h : I64 n) (hk : 12 ≤ k) (hl : l.length + 12 ≤ 140737488355328) : num_PutSigned.f k l n = some (l ++ pS n) := by
  have hp := pS_len h
  unfold num_PutSigned.f num_groups.f
  rw [zig_eq n h]
  simp only [Option.bind_some]
  unfold pS at hp ⊢
  rw [groups_l0 _ k l (by omega) (by omega)]
  try rfl
/-! ### Operations and states that may be -/
theorem rd_nth (l : List Int) (i : Nat) (h : i < l.length) : rd l (i : Int) = l[i] := by unfold rd; rw [Int.toNat_natCast, List.getD_eq_getElem?_getD, List.getElem?_eq_getElem h]; rfl
theorem cut_eq (n : Int) : objs_cut.f n = some (CodecPlain.cutP n) := by
  unfold objs_cut.f CodecPlain.cutP
  congr 1
  unfold mx mn
  repeat' split
  all_goals omega
theorem fits_eq (c a b : Int) : objs_Fits.f c a b = some (CodecPlain.fitsB c a b) := by
  unfold objs_Fits.f CodecPlain.fitsB
  by_cases h0 : 0 ≤ c
  · rw [if_pos h0, decide_eq_true h0]
    by_cases h1 : c ≤ 10
    · rw [if_pos h1, decide_eq_true h1, cut_eq, Option.bind_some]
      by_cases h2 : a = CodecPlain.cutP a
      · rw [if_pos h2, decide_eq_true h2, cut_eq, Option.bind_some]; rw [Bool.true_and, Bool.true_and, Bool.true_and]; rfl
      · rw [if_neg h2, decide_eq_false h2]; simp
    · rw [if_neg h1, decide_eq_false h1]; simp
  · rw [if_neg h0, decide_eq_false h0]; simp
open NumPlain CodecPlain in
theorem putOp_eq (k : Nat) (l : List Int) (c a b : Int) (ha : I64 a) (hb : I64 b) (hk : 12 ≤ k) (hl : l.length + 50 ≤ 140737488355328) : codec_PutOp.f k l c a b = some (if fitsB c a b = true then (l ++ opB c a b, 0) else (l, 1)) := by
  have h1 := pt_len c; have h2 := pS_len ha
  unfold codec_PutOp.f
  rw [fits_eq, Option.bind_some]
  by_cases h : fitsB c a b = true
  · rw [if_pos h, if_pos h, put_eq k l c hk (by omega), Option.bind_some, putS_eq k _ a ha hk (by rw [List.length_append]; omega), Option.bind_some, putS_eq k _ b hb hk (by rw [List.length_append, List.length_append]; omega), Option.bind_some]
    simp [opB]
  · rw [if_neg h, if_neg h]
/-! ### Records -/
open NumPlain CodecPlain MapAid in
def fitsR (x : S32) : Bool := decide (0 ≤ x.f0) && decide (x.f0 < 4611686018427387904) && decide (0 ≤ x.f1) && decide (x.f1 ≤ 64) && decide (0 ≤ x.f2) && decide (x.f2 < 4611686018427387904) && fitsB x.f3.f0 x.f3.f1 x.f3.f2 && decide (-1125899906842624 ≤ x.f4) && decide (x.f4 ≤ 1125899906842624)
theorem fitsR_iff (x : S32) : fitsR x = true ↔ (0 ≤ x.f0 ∧ x.f0 < 4611686018427387904) ∧ (0 ≤ x.f1 ∧ x.f1 ≤ 64) ∧ (0 ≤ x.f2 ∧ x.f2 < 4611686018427387904) ∧ CodecPlain.fitsB x.f3.f0 x.f3.f1 x.f3.f2 = true ∧ (-1125899906842624 ≤ x.f4 ∧ x.f4 ≤ 1125899906842624) := by
  unfold fitsR
  simp only [Bool.and_eq_true, decide_eq_true_eq]
  constructor
  · rintro ⟨⟨⟨⟨⟨⟨⟨⟨a, b⟩, c⟩, d⟩, e⟩, f⟩, g⟩, h⟩, i⟩; exact ⟨⟨a, b⟩, ⟨c, d⟩, ⟨e, f⟩, g, h, i⟩
  · rintro ⟨⟨a, b⟩, ⟨c, d⟩, ⟨e, f⟩, g, h, i⟩; exact ⟨⟨⟨⟨⟨⟨⟨⟨a, b⟩, c⟩, d⟩, e⟩, f⟩, g⟩, h⟩, i⟩
theorem schema_eq (x : S32) : schema_Fits.f x.f0 x.f1 x.f2 x.f3.f0 x.f3.f1 x.f3.f2 x.f4 = some (fitsR x) := by
  unfold schema_Fits.f fitsR
  rw [fits_eq]
  simp only [Option.bind_some]
  by_cases h1 : 0 ≤ x.f0
  · rw [if_pos h1, decide_eq_true h1]
    by_cases h2 : x.f0 < 4611686018427387904
    · rw [if_pos h2, decide_eq_true h2]
      by_cases h3 : 0 ≤ x.f1
      · rw [if_pos h3, decide_eq_true h3]
        by_cases h4 : x.f1 ≤ 64
        · rw [if_pos h4, decide_eq_true h4]
          by_cases h5 : 0 ≤ x.f2
          · rw [if_pos h5, decide_eq_true h5]
            by_cases h6 : x.f2 < 4611686018427387904
            · rw [if_pos h6, decide_eq_true h6]
              cases CodecPlain.fitsB x.f3.f0 x.f3.f1 x.f3.f2 with
              | false => simp
              | true =>
                rw [if_pos rfl]
                by_cases h7 : -1125899906842624 ≤ x.f4
                · rw [if_pos h7, decide_eq_true h7]; simp
                · rw [if_neg h7, decide_eq_false h7]; simp
            · rw [if_neg h6, decide_eq_false h6]; simp
          · rw [if_neg h5, decide_eq_false h5]; simp
        · rw [if_neg h4, decide_eq_false h4]; simp
      · rw [if_neg h3, decide_eq_false h3]; simp
    · rw [if_neg h2, decide_eq_false h2]; simp
  · rw [if_neg h1, decide_eq_false h1]; simp
theorem rdR_nth (l : List S32) (i : Nat) (h : i < l.length) : rd_T32 l (i : Int) = l[i] := by unfold rd_T32; rw [Int.toNat_natCast, List.getD_eq_getElem?_getD, List.getElem?_eq_getElem h]; rfl
def ordB (first : Int) : List S32 → Bool
  | [] => true
  | x :: l => fitsR x && decide (x.f0 = first) && ordB (first + 1) l
def firstR : List S32 → Int
  | [] => 0
  | x :: _ => x.f0
def blkOk (l : List S32) : Bool := decide (1 ≤ l.length) && decide (l.length ≤ 256) && ordB (firstR l) l
theorem firstR_eq (l : List S32) (h : 0 < l.length) : (rd_T32 l 0).f0 = firstR l := by
  rw [show (0 : Int) = ((0 : Nat) : Int) from rfl, rdR_nth l 0 h]
  cases l with
  | nil => simp at h
  | cons x l => rfl
theorem ordB_fits {l : List S32} : ∀ {first : Int}, ordB first l = true → ∀ x ∈ l, fitsR x = true := by
  induction l with
  | nil => intro _ _ x hx; cases hx
  | cons y l ih =>
    intro first h x hx
    unfold ordB at h
    simp only [Bool.and_eq_true, decide_eq_true_eq] at h
    rcases List.mem_cons.1 hx with rfl | hx
    · exact h.1.1
    · exact ih h.2 x hx
theorem blkFits_l0 (l : List S32) (hl : l.length ≤ 1000000) : ∀ (n i k : Nat), i + n = l.length → n + 1 ≤ k → (0 < i → 0 ≤ firstR l ∧ firstR l < 4611686018427387904) → block_Fits.l0 k l l (l.length : Int) (i : Int) = some (ordB (firstR l + i) (l.drop i) && decide (1 ≤ l.length) && decide (l.length ≤ 256)) := by
  intro n
  induction n with
  | zero =>
    intro i k hi hk _
    obtain ⟨k, rfl⟩ : ∃ m, k = m + 1 := ⟨k - 1, by omega⟩
    simp only [block_Fits.l0]
    rw [if_neg (by omega), List.drop_eq_nil_of_le (by omega)]
    by_cases h : (l.length : Int) > 0
    · rw [if_pos h]; simp only [ordB, Bool.true_and]; rw [decide_eq_true (show 1 ≤ l.length by omega), Bool.true_and]; congr 1; rw [decide_eq_decide]; omega
    · rw [if_neg h]; simp only [ordB, Bool.true_and]; rw [decide_eq_false (show ¬ 1 ≤ l.length by omega), Bool.false_and]
  | succ n ih =>
    intro i k hi hk hf
    obtain ⟨k, rfl⟩ : ∃ m, k = m + 1 := ⟨k - 1, by omega⟩
    have hlt : i < l.length := by omega
    simp only [block_Fits.l0]
    rw [if_pos (by omega), if_pos (by omega), if_pos (by omega), rdR_nth l i hlt, schema_eq, Option.bind_some, List.drop_eq_getElem_cons hlt]
    simp only [ordB]
    by_cases h : fitsR l[i] = true
    · have hf0 : 0 ≤ firstR l ∧ firstR l < 4611686018427387904 := by
        rcases Nat.eq_zero_or_pos i with h0 | h0
        · subst h0
          rw [← firstR_eq l hlt, show (0 : Int) = ((0 : Nat) : Int) from rfl, rdR_nth l 0 hlt]
          exact ((fitsR_iff _).1 h).1
        · exact hf h0
      have hw : wrap64 (firstR l + (i : Int)) = firstR l + i := by unfold wrap64; omega
      have hw1 : wrap64 ((i : Int) + 1) = ((i + 1 : Nat) : Int) := by unfold wrap64; omega
      rw [if_pos h, if_pos (by omega), firstR_eq l (by omega), hw, hw1, h, Bool.true_and]
      clear hw hw1
      by_cases he : l[i].f0 = firstR l + i
      · rw [if_pos he, decide_eq_true he, Bool.true_and, ih (i + 1) k (by omega) (by omega) (fun _ => hf0), show firstR l + (i : Int) + 1 = firstR l + ((i + 1 : Nat) : Int) by omega]
      · rw [if_neg he, decide_eq_false he]; simp
    · rw [if_neg h]; simp only [Bool.not_eq_true] at h; rw [h]; simp
theorem blkFits_eq (l : List S32) (hl : l.length ≤ 1000000) (k : Nat) (hk : l.length + 1 ≤ k) : block_Fits.f k l = some (blkOk l) := by
  unfold block_Fits.f
  have h := blkFits_l0 l hl l.length 0 k (by omega) hk (fun h => by omega)
  rw [show ((0 : Nat) : Int) = 0 from rfl, Int.add_zero, List.drop_zero] at h
  rw [h]
  unfold blkOk
  congr 1
  cases decide (l.length ≤ 256) <;> cases decide (1 ≤ l.length) <;> cases ordB (firstR l) l <;> rfl
/-- A record's bytes, where its process's last one had s. -/
def recB (s : Int) (x : S32) : List Int := NumPlain.pt x.f1 ++ NumPlain.pS (x.f2 - s) ++ CodecPlain.opB x.f3.f0 x.f3.f1 x.f3.f2 ++ NumPlain.pS x.f4
def recs : (Int → Int) → List S32 → List Int
  | _, [] => []
  | f, x :: l => recB (f x.f1) x ++ recs (MapAid.upd f x.f1 x.f2) l
def blkB (l : List S32) : List Int := NumPlain.pt (firstR l) ++ NumPlain.pt (l.length : Int) ++ recs (fun _ => 0) l
def Seqs (f : Int → Int) : Prop := ∀ y, 0 ≤ f y ∧ f y < 4611686018427387904
theorem seqs0 : Seqs (fun _ => 0) := fun _ => by simp only; omega
theorem Seqs.upd {f : Int → Int} (h : Seqs f) {x v : Int} (h0 : 0 ≤ v) (h1 : v < 4611686018427387904) : Seqs (MapAid.upd f x v) := fun y => by
  unfold MapAid.upd
  split
  · exact ⟨h0, h1⟩
  · exact h y
theorem recB_bytes (s : Int) (x : S32) : NumPlain.Bytes (recB s x) := CodecPlain.bytes_join (CodecPlain.bytes_join (CodecPlain.bytes_join (NumPlain.pt_bytes _) (NumPlain.pS_bytes _)) (CodecPlain.opB_bytes _ _ _)) (NumPlain.pS_bytes _)
theorem recB_len {s : Int} {x : S32} (h : fitsR x = true) (h0 : 0 ≤ s) (h1 : s < 4611686018427387904) : (recB s x).length ≤ 58 := by
  obtain ⟨_, ⟨a1, a2⟩, ⟨b1, b2⟩, c, ⟨d1, d2⟩⟩ := (fitsR_iff x).1 h
  obtain ⟨i1, i2, _, _⟩ := CodecPlain.fits_i64 c
  have g1 := NumPlain.pt_len x.f1
  have g2 := NumPlain.pS_len (n := x.f2 - s) (by unfold NumPlain.I64; omega)
  have g3 := CodecPlain.opB_len (c := x.f3.f0) i1 i2
  have g4 := NumPlain.pS_len (n := x.f4) (by unfold NumPlain.I64; omega)
  unfold recB
  simp only [List.length_append]
  omega
theorem recs_bytes : ∀ (l : List S32) (f : Int → Int), NumPlain.Bytes (recs f l)
  | [], _ => fun c hc => by cases hc
  | x :: l, f => CodecPlain.bytes_join (recB_bytes _ _) (recs_bytes l _)
theorem recs_len : ∀ (l : List S32) (f : Int → Int), Seqs f → (∀ x ∈ l, fitsR x = true) → (recs f l).length ≤ 58 * l.length
  | [], _, _, _ => Nat.zero_le _
  | x :: l, f, hf, h => by
    have hx := h x List.mem_cons_self
    obtain ⟨_, _, ⟨b1, b2⟩, _⟩ := (fitsR_iff x).1 hx
    have h1 := recB_len hx (hf x.f1).1 (hf x.f1).2
    have h2 := recs_len l (MapAid.upd f x.f1 x.f2) (hf.upd b1 b2) (fun y hy => h y (List.mem_cons_of_mem _ hy))
    simp only [recs, List.length_append, List.length_cons]
    omega
theorem blkB_bytes (l : List S32) : NumPlain.Bytes (blkB l) := CodecPlain.bytes_join (CodecPlain.bytes_join (NumPlain.pt_bytes _) (NumPlain.pt_bytes _)) (recs_bytes _ _)
open NumPlain CodecPlain in
theorem go_eq (k : Nat) (hk : 12 ≤ k) : ∀ (l : List S32) (f : Int → Int) (b : List Int), Seqs f → (∀ x ∈ l, fitsR x = true) → b.length + 58 * l.length + 100 ≤ 140737488355328 → block_Encode.go k l f b = some (b ++ recs f l)
  | [], f, b, _, _, _ => by simp [block_Encode.go, recs]
  | x :: l, f, b, hf, h, hb => by
    have hx := h x List.mem_cons_self
    obtain ⟨⟨_, _⟩, ⟨a1, a2⟩, ⟨b1, b2⟩, c, ⟨d1, d2⟩⟩ := (fitsR_iff x).1 hx
    obtain ⟨i1, i2, _, _⟩ := fits_i64 c
    obtain ⟨f0, f1⟩ := hf x.f1
    have g1 := pt_len x.f1
    have g2 := pS_len (n := x.f2 - f x.f1) (by unfold I64; omega)
    have g3 := opB_len (c := x.f3.f0) i1 i2
    have g4 := pS_len (n := x.f4) (by unfold I64; omega)
    have hw : wrap64 (x.f2 - f x.f1) = x.f2 - f x.f1 := by unfold wrap64; omega
    rw [List.length_cons] at hb
    simp only [block_Encode.go, recs]
    rw [hw]
    clear hw
    rw [if_pos ⟨a1, a2, b1, b2⟩, put_eq k b _ hk (by omega), Option.bind_some, putS_eq k _ _ (by unfold I64; omega) hk (by rw [List.length_append]; omega), Option.bind_some, putOp_eq k _ _ _ _ i1 i2 hk (by simp only [List.length_append]; omega), if_pos c, Option.bind_some, putS_eq k _ _ (by unfold I64; omega) hk (by simp only [List.length_append]; omega), Option.bind_some]
    rw [go_eq k hk l _ _ (hf.upd b1 b2) (fun y hy => h y (List.mem_cons_of_mem _ hy)) (by simp only [List.length_append]; omega)]
    simp [recB]
/-- The answer of block.Encode. -/
def encL (l : List S32) : List Int × Int := if blkOk l = true then (blkB l, 0) else ([], 1)
open NumPlain CodecPlain in
theorem blkEnc_eq (l : List S32) (hl : l.length ≤ 1000000) (k : Nat) (hk : l.length + 12 ≤ k) : block_Encode.f k l = some (encL l) := by
  unfold block_Encode.f encL
  rw [blkFits_eq l hl k (by omega), Option.bind_some]
  by_cases h : blkOk l = true
  · rw [if_pos h, if_pos h]
    unfold blkOk at h
    simp only [Bool.and_eq_true, decide_eq_true_eq] at h
    obtain ⟨⟨h1, h2⟩, h3⟩ := h
    have g1 := pt_len (firstR l); have g2 := pt_len (l.length : Int)
    rw [if_pos (by omega), firstR_eq l (by omega), put_eq k [] _ (by omega) (by simp), Option.bind_some, put_eq k _ _ (by omega) (by simp; omega), Option.bind_some, go_eq k (by omega) l _ _ seqs0 (ordB_fits h3) (by simp only [List.length_append, List.nil_append]; omega)]
    simp [blkB]
  · rw [if_neg h, if_neg h]
open NumPlain CodecPlain in
theorem awake_eq (k : Nat) (hk : 20 ≤ k) : ferrymanlaw07_awake.f k = some true := by
  have e1 : blkOk [(⟨7, 1, 5, (⟨0, 0, 0⟩ : S30), 0⟩ : S32), (⟨8, 1, 6, (⟨0, 0, 0⟩ : S30), 0⟩ : S32)] = true := by decide
  have e2 : blkB [(⟨7, 1, 5, (⟨0, 0, 0⟩ : S30), 0⟩ : S32), (⟨8, 1, 6, (⟨0, 0, 0⟩ : S30), 0⟩ : S32)] = [7, 2, 1, 10, 0, 0, 0, 0, 1, 2, 0, 0, 0, 0] := by
    simp only [blkB, firstR, recs, recB, opB, MapAid.upd, List.length_cons, List.length_nil]
    have p0 : pt 0 = [0] := by unfold pt; rw [if_pos (by omega), show (0 : Int).toNat = 0 from rfl, gr_small (by omega)]; rfl
    have p1 : pt 1 = [1] := by unfold pt; rw [if_pos (by omega), show (1 : Int).toNat = 1 from rfl, gr_small (by omega)]; rfl
    have p7 : pt 7 = [7] := by unfold pt; rw [if_pos (by omega), show (7 : Int).toNat = 7 from rfl, gr_small (by omega)]; rfl
    have p2 : pt ((0 + 1 + 1 : Nat) : Int) = [2] := by unfold pt; rw [if_pos (by omega), show (((0 + 1 + 1 : Nat) : Int)).toNat = 2 from rfl, gr_small (by omega)]; rfl
    have q0 : pS 0 = [0] := by unfold pS; rw [show zig 0 = 0 from rfl, gr_small (by omega)]; rfl
    have q5 : pS (5 - 0) = [10] := by unfold pS; rw [show zig (5 - 0) = 10 from rfl, gr_small (by omega)]; rfl
    have q1 : pS (6 - (if True then (5 : Int) else 0)) = [2] := by rw [if_pos trivial]; unfold pS; rw [show zig (6 - 5) = 2 from rfl, gr_small (by omega)]; rfl
    rw [p0, p1, p7, p2, q0, q5, q1]
    rfl
  unfold ferrymanlaw07_awake.f
  rw [blkEnc_eq _ (by simp) k (by simp; omega), encL, if_pos e1, e2, Option.bind_some, if_pos rfl, str_list]
  decide
/-! ### Records of nothing -/
def mkR (proc first seq : Int) : Nat → List S32
  | 0 => []
  | n + 1 => ⟨first, proc, seq, ⟨0, 0, 0⟩, 0⟩ :: mkR proc (first + 1) (seq + 1) n
theorem mkR_len (proc : Int) : ∀ (n : Nat) (first seq : Int), (mkR proc first seq n).length = n
  | 0, _, _ => rfl
  | n + 1, first, seq => by rw [mkR, List.length_cons, mkR_len]
theorem mkR_snoc (proc : Int) : ∀ (n : Nat) (first seq : Int), mkR proc first seq n ++ [⟨first + n, proc, seq + n, ⟨0, 0, 0⟩, 0⟩] = mkR proc first seq (n + 1)
  | 0, first, seq => by simp [mkR]
  | n + 1, first, seq => by
    rw [mkR, List.cons_append, mkR, ← mkR_snoc proc n (first + 1) (seq + 1), show first + ((n + 1 : Nat) : Int) = first + 1 + n by omega, show seq + ((n + 1 : Nat) : Int) = seq + 1 + n by omega]
theorem mkR_ord (proc : Int) (h0 : 0 ≤ proc) (h1 : proc ≤ 64) : ∀ (n : Nat) (first seq : Int), 0 ≤ first → first + n < 100000 → 0 ≤ seq → seq + n < 100000 → ordB first (mkR proc first seq n) = true
  | 0, _, _, _, _, _, _ => rfl
  | n + 1, first, seq, a, b, c, d => by
    unfold mkR ordB
    rw [mkR_ord proc h0 h1 n (first + 1) (seq + 1) (by omega) (by omega) (by omega) (by omega)]
    simp only [Bool.and_eq_true, decide_eq_true_eq, and_true]
    have hz : CodecPlain.fitsB 0 0 0 = true := by decide
    exact (fitsR_iff _).2 ⟨⟨a, by simp only; omega⟩, ⟨h0, by simp only; omega⟩, ⟨c, by simp only; omega⟩, hz, by simp only; omega⟩
open NumPlain CodecPlain in
theorem mkR_recs (proc : Int) (h0 : 0 ≤ proc) (h1 : proc ≤ 64) : ∀ (n : Nat) (first seq : Int) (f : Int → Int), f proc = seq - 1 → (recs f (mkR proc first seq n)).length = 6 * n
  | 0, _, _, _, _ => rfl
  | n + 1, first, seq, f, hf => by
    have e1 : pt proc = [proc] := by unfold pt; rw [if_pos (by omega), gr_small (by omega)]; simp only [List.cons.injEq, and_true]; omega
    have e2 : pS 1 = [2] := by unfold pS; rw [show zig 1 = 2 from rfl, gr_small (by omega)]; rfl
    have e3 : pS 0 = [0] := by unfold pS; rw [show zig 0 = 0 from rfl, gr_small (by omega)]; rfl
    have e4 : pt 0 = [0] := by unfold pt; rw [if_pos (by omega), show (0 : Int).toNat = 0 from rfl, gr_small (by omega)]; rfl
    unfold mkR recs
    rw [List.length_append, mkR_recs proc h0 h1 n (first + 1) (seq + 1) _ (by unfold MapAid.upd; rw [if_pos rfl]; simp only; omega)]
    simp only [recB, opB]
    rw [hf, show seq - (seq - 1) = 1 by omega, e1, e2, e3, e4]
    simp only [List.length_append, List.length_singleton]
    omega
open NumPlain CodecPlain in
theorem mkR_blk (proc first : Int) (n : Nat) (h0 : 0 ≤ proc) (h1 : proc ≤ 64) (h2 : 1 ≤ n) (h3 : n ≤ 200) (h4 : 0 ≤ first) (h5 : first ≤ 1000) : blkOk (mkR proc first 1 n) = true ∧ (blkB (mkR proc first 1 n)).length = (pt first).length + (if n > 127 then 2 else 1) + 6 * n := by
  have hf : firstR (mkR proc first 1 n) = first := by
    obtain ⟨m, rfl⟩ : ∃ m, n = m + 1 := ⟨n - 1, by omega⟩
    rfl
  have hl := mkR_len proc n first 1
  refine ⟨?_, ?_⟩
  · unfold blkOk
    rw [hl, hf, mkR_ord proc h0 h1 n first 1 h4 (by omega) (by omega) (by omega), decide_eq_true h2, decide_eq_true (by omega)]
    rfl
  · unfold blkB
    rw [List.length_append, List.length_append, hf, hl, mkR_recs proc h0 h1 n first 1 _ (by rfl)]
    have : (pt (n : Int)).length = if n > 127 then 2 else 1 := by
      unfold pt
      rw [if_pos (by omega), Int.toNat_natCast]
      by_cases h : n > 127
      · rw [if_pos h, gr_large (by omega), gr_small (by omega)]; rfl
      · rw [if_neg h, gr_small (by omega)]; rfl
    rw [this]
open NumPlain CodecPlain in
theorem short_l0 (proc first : Int) (N : Nat) (h0 : 0 ≤ proc) (h1 : proc ≤ 64) (h2 : 1 ≤ N) (h3 : N ≤ 200) (h4 : 0 ≤ first) (h5 : first ≤ 1000) : ∀ (n i k : Nat), i + n = N → n + 301 ≤ k → ferrymanlaw07_BlockShort.l0 k proc (N : Int) first (mkR proc first 1 i) (i : Int) = some true := by
  intro n
  induction n with
  | zero =>
    intro i k hi hk
    obtain ⟨k, rfl⟩ : ∃ m, k = m + 1 := ⟨k - 1, by omega⟩
    obtain rfl : i = N := by omega
    have hl := mkR_len proc i first 1
    obtain ⟨b1, b2⟩ := mkR_blk proc first i h0 h1 h2 h3 h4 h5
    obtain ⟨c1, c2⟩ := mkR_blk proc first 1 h0 h1 (by omega) (by omega) h4 h5
    have ht : (mkR proc first 1 i).take 1 = mkR proc first 1 1 := by
      obtain ⟨m, rfl⟩ : ∃ m, i = m + 1 := ⟨i - 1, by omega⟩
      rfl
    have hp := pt_len first
    simp only [ferrymanlaw07_BlockShort.l0]
    rw [if_neg (by omega), blkEnc_eq _ (by omega) k (by omega), Option.bind_some, if_pos (by omega), ht, blkEnc_eq _ (by rw [mkR_len]; omega) k (by rw [mkR_len]; omega), Option.bind_some, encL, encL, if_pos b1, if_pos c1]
    simp only
    generalize (blkB (mkR proc first 1 i)).length = B at *
    generalize (blkB (mkR proc first 1 1)).length = C at *
    generalize (pt first).length = P at *
    rw [if_neg (by omega)] at c2
    have w0 : wrap64 ((i : Int) - 1) = (i : Int) - 1 := by unfold wrap64; omega
    have w1 : wrap64 (6 * ((i : Int) - 1)) = 6 * (i : Int) - 6 := by unfold wrap64; omega
    rw [w0, w1]
    clear w0 w1
    by_cases hg : (i : Int) > 127
    · rw [if_pos (by omega)] at b2
      have w2 : wrap64 ((C : Int) + 1) = C + 1 := by unfold wrap64; omega
      have w3 : wrap64 ((C : Int) + 1 + (6 * (i : Int) - 6)) = C + 1 + (6 * (i : Int) - 6) := by unfold wrap64; omega
      rw [if_pos hg, w2, w3]
      clear w2 w3
      have e : (B : Int) = C + 1 + (6 * (i : Int) - 6) := by omega
      simp [e]
    · rw [if_neg (by omega)] at b2
      have w2 : wrap64 ((C : Int) + 0) = C := by unfold wrap64; omega
      have w3 : wrap64 ((C : Int) + (6 * (i : Int) - 6)) = C + (6 * (i : Int) - 6) := by unfold wrap64; omega
      rw [if_neg hg, w2, w3]
      clear w2 w3
      have e : (B : Int) = C + (6 * (i : Int) - 6) := by omega
      simp [e]
  | succ n ih =>
    intro i k hi hk
    obtain ⟨k, rfl⟩ : ∃ m, k = m + 1 := ⟨k - 1, by omega⟩
    have hl := mkR_len proc i first 1
    have w1 : wrap64 (first + (i : Int)) = first + i := by unfold wrap64; omega
    have w2 : wrap64 (1 + (i : Int)) = 1 + i := by unfold wrap64; omega
    have w3 : wrap64 ((i : Int) + 1) = ((i + 1 : Nat) : Int) := by unfold wrap64; omega
    simp only [ferrymanlaw07_BlockShort.l0]
    rw [w1, w2, w3]
    clear w1 w2 w3
    rw [if_pos (by omega), if_pos (by omega), mkR_snoc]
    exact ih (i + 1) k (by omega) (by omega)
open NumPlain CodecPlain in
theorem BlockShort : ferrymanlaw07_BlockShort.Pure := by
  intro proc n first _ _ _
  refine ⟨600, ?_⟩
  have jt : ferrymanlaw07_BlockShort.j0 600 proc n first true true = some true := by rw [ferrymanlaw07_BlockShort.j0, if_pos rfl]
  unfold ferrymanlaw07_BlockShort.f
  rw [awake_eq 600 (by omega), Option.bind_some, if_pos rfl]
  by_cases c1 : proc < 0
  · rw [if_pos c1]; exact jt
  · rw [if_neg c1]
    by_cases c2 : proc > 64
    · rw [if_pos c2]; exact jt
    · rw [if_neg c2]
      by_cases c3 : n < 1
      · rw [if_pos c3]; exact jt
      · rw [if_neg c3]
        by_cases c4 : n > 200
        · rw [if_pos c4]; exact jt
        · rw [if_neg c4]
          by_cases c5 : first < 0
          · rw [if_pos c5]; exact jt
          · rw [if_neg c5]
            by_cases c6 : first > 1000
            · rw [decide_eq_true c6]; exact jt
            · rw [decide_eq_false c6, ferrymanlaw07_BlockShort.j0, if_neg (by decide)]
              obtain ⟨m, rfl⟩ := Int.eq_ofNat_of_zero_le (show 0 ≤ n by omega)
              have := short_l0 proc first m (by omega) (by omega) (by omega) (by omega) (by omega) (by omega) m 0 599 (by omega) (by omega)
              exact this
end Go.Proofs.Ytecddphmnoegdaa.Pure
