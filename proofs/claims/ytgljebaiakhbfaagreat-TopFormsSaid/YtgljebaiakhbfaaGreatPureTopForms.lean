/- What this text proves: a state is told in one way alone, and so is an operation; conditions: none beyond the statement's own. -/
import Derived.Test.YtgljebaiakhbfaaGreatAwForms
import Derived.Test.YtgljebaiakhbfaaGreatCodecPlain
import Derived.OpenShut
namespace Go.Proofs.YtgljebaiakhbfaaGreat.Pure
open Go.RowKit Go.Proofs.YtgljebaiakhbfaaGreat.QTopForms Go.Proofs.YtgljebaiakhbfaaGreatW.PrintWords Go.Proofs.YtgljebaiakhbfaaGreatW.PrintLast Go.Proofs.YtgljebaiakhbfaaGreatW.PrintMore
/-! ### Numbers: bits -/
theorem wraps_u64 (n : Int) (h0 : 0 ≤ n) (h1 : n < 2 ^ 64) : IntKind.u64.wrap n = n := by
  have : IntKind.u64.wrap n = n % 18446744073709551616 := by simp [IntKind.wrap, IntKind.bits, IntKind.signed]
  rw [this]; omega
theorem wrap_u64 (n : Int) : IntKind.u64.wrap n = n % 18446744073709551616 := by simp [IntKind.wrap, IntKind.bits, IntKind.signed]
theorem bits_or_comm (k : IntKind) (x y : Int) : Go.bits .or k x y = Go.bits .or k y x := by
  unfold Go.bits; simp only; rw [BitVec.or_comm]
theorem or128 (x : Int) : Go.bits .or .u8 (x % 256) 128 = x % 128 + 128 := by
  have : ∀ c : Fin 256, Go.bits .or .u8 ((c.val : Nat) : Int) 128 = ((c.val : Nat) : Int) % 128 + 128 := by decide +kernel
  have h2 := this ⟨(x % 256).toNat, by omega⟩
  simp only at h2
  rw [show (((x % 256).toNat : Nat) : Int) = x % 256 by omega] at h2
  rw [h2]; omega
theorem and127 (c : Int) (h0 : 0 ≤ c) (h1 : c ≤ 255) : Go.bits .and .u8 c 127 = c % 128 := by
  have := Go.bits_mask .u8 8 (by decide) Go.wraps_u8 7 (by decide) c h0 (by omega)
  simpa using this
theorem and1 (u : Int) (h0 : 0 ≤ u) (h1 : u < 18446744073709551616) : Go.bits .and .u64 u 1 = u % 2 := by
  have := Go.bits_mask .u64 64 (by decide) wraps_u64 1 (by decide) u h0 (by omega)
  simpa using this
theorem or_shl (u c i : Nat) (hi : i ≤ 63) (hu : u < 2 ^ i) (hc : c * 2 ^ i < 2 ^ 64) : Go.bits .or .u64 (u : Int) (shl .u64 (c : Int) (i : Int)) = ((u + c * 2 ^ i : Nat) : Int) := by
  have e : shl .u64 (c : Int) (i : Int) = ((c * 2 ^ i : Nat) : Int) := by
    unfold shl
    rw [show min ((i : Int)).toNat IntKind.u64.bits = i by simp only [Int.toNat_natCast]; exact Nat.min_eq_left (by show i ≤ 64; omega)]
    rw [show ((c : Int) * 2 ^ i) = ((c * 2 ^ i : Nat) : Int) by push_cast; rfl]
    exact wraps_u64 _ (by omega) (by exact_mod_cast hc)
  have h2 : (2 : Nat) ^ i ≤ 2 ^ 63 := Nat.pow_le_pow_right (by decide) hi
  rw [e, bits_or_comm, Go.bits_join .u64 64 (by decide) wraps_u64 i _ _ (by omega) (by exact_mod_cast Nat.mul_mod_left c (2 ^ i)) (by exact_mod_cast hc) (by omega) (by exact_mod_cast hu) (by omega)]
  push_cast; omega
theorem xor_u64 (x y : Int) : Go.bits .xor .u64 x y = ((BitVec.ofInt 64 x ^^^ BitVec.ofInt 64 y).toNat : Int) := by
  have e : Go.bits .xor .u64 x y = IntKind.u64.wrap ((BitVec.ofInt 64 x ^^^ BitVec.ofInt 64 y).toNat : Int) := rfl
  have := (BitVec.ofInt 64 x ^^^ BitVec.ofInt 64 y).isLt
  rw [e, wrap_u64]; omega
theorem xor_i64 (x y : Int) : Go.bits .xor .i64 x y = (((BitVec.ofInt 64 x ^^^ BitVec.ofInt 64 y).toNat : Int) + 9223372036854775808) % 18446744073709551616 - 9223372036854775808 := by
  have e : Go.bits .xor .i64 x y = IntKind.i64.wrap ((BitVec.ofInt 64 x ^^^ BitVec.ofInt 64 y).toNat : Int) := rfl
  rw [e, Go.IntKind.wrap_i64]
theorem xor_ones (n : Int) : Go.bits .xor .u64 n 18446744073709551615 = 18446744073709551615 - n % 18446744073709551616 := by
  rw [xor_u64, show BitVec.ofInt 64 18446744073709551615 = BitVec.allOnes 64 by decide, BitVec.xor_allOnes, BitVec.toNat_not, BitVec.toNat_ofInt]
  omega
theorem xor_zero (n : Int) : Go.bits .xor .u64 n 0 = n % 18446744073709551616 := by
  rw [xor_u64, show BitVec.ofInt 64 0 = 0#64 by decide, BitVec.xor_zero, BitVec.toNat_ofInt]
  omega
theorem xor_ones_i (n : Int) (h : NumPlain.I64 n) : Go.bits .xor .i64 n (-1) = -n - 1 := by
  unfold NumPlain.I64 at h
  rw [xor_i64, show BitVec.ofInt 64 (-1) = BitVec.allOnes 64 by decide, BitVec.xor_allOnes, BitVec.toNat_not, BitVec.toNat_ofInt]
  omega
theorem xor_zero_i (n : Int) (h : NumPlain.I64 n) : Go.bits .xor .i64 n 0 = n := by
  unfold NumPlain.I64 at h
  rw [xor_i64, show BitVec.ofInt 64 0 = 0#64 by decide, BitVec.xor_zero, BitVec.toNat_ofInt]
  omega
theorem i64_of {a : Int} (h : (Lit.int .i64 a).wf = true) : NumPlain.I64 a := Go.bounds_i64 h
/-! ### Put -/
open NumPlain in
theorem groups_l0 (u : Nat) : ∀ (k : Nat) (x : List Int), (gr u).length ≤ k → x.length + (gr u).length ≤ 140737488355328 → num_groups.l0 k x (u : Int) = some (x ++ gr u) := by
  refine gr_ind (C := fun u => ∀ (k : Nat) (x : List Int), (gr u).length ≤ k → x.length + (gr u).length ≤ 140737488355328 → num_groups.l0 k x (u : Int) = some (x ++ gr u)) (fun u h => ?_) (fun u h ih => ?_) u
  · intro k x hk hx
    rw [gr_small h] at hk hx ⊢
    simp only [List.length_singleton] at hk hx
    obtain ⟨k, rfl⟩ : ∃ m, k = m + 1 := ⟨k - 1, by omega⟩
    simp only [num_groups.l0]
    rw [if_neg (by omega), if_pos (by omega), show (u : Int) % 256 = u by omega]
  · intro k x hk hx
    rw [gr_large h] at hk hx ⊢
    simp only [List.length_cons] at hk hx
    obtain ⟨k, rfl⟩ : ∃ m, k = m + 1 := ⟨k - 1, by omega⟩
    simp only [num_groups.l0]
    rw [if_pos (by omega), if_pos (by omega), or128, show (u : Int) / 128 = ((u / 128 : Nat) : Int) by omega,
      ih k _ (by omega) (by simp; omega), List.append_assoc]
    rw [show (u : Int) % 128 + 128 = ((u % 128 + 128 : Nat) : Int) by omega]
    rfl
open NumPlain in
theorem put_eq (k : Nat) (l : List Int) (n : Int) (hk : 12 ≤ k) (hl : l.length + 12 ≤ 140737488355328) : num_Put.f k l n = some (l ++ pt n) := by
  have hp := pt_len n
  unfold num_Put.f
  unfold pt at hp ⊢
  by_cases h0 : n < 0
  · rw [if_pos h0, if_neg (by omega), List.append_nil]
  · rw [if_neg h0]
    by_cases h1 : n ≥ 4611686018427387904
    · rw [if_pos h1, if_neg (by omega), List.append_nil]
    · rw [if_pos (by omega)] at hp
      rw [if_neg h1, if_pos (by omega), wraps_u64 _ (by omega) (by omega)]
      unfold num_groups.f
      obtain ⟨u, rfl⟩ := Int.eq_ofNat_of_zero_le (show 0 ≤ n by omega)
      simp only [Int.toNat_natCast] at hp ⊢
      rw [groups_l0 u k l (by omega) (by omega)]
      rfl
/-! ### Zig, Zag -/
open NumPlain in
theorem zig_eq (n : Int) (h : I64 n) : num_Zig.f n = some ((zig n : Nat) : Int) := by
  unfold I64 at h
  unfold num_Zig.f zig
  by_cases h0 : 0 ≤ n
  · rw [if_pos h0, show n / 9223372036854775808 = 0 by omega, wraps_u64 0 (by omega) (by omega), xor_zero, wraps_u64 n h0 (by omega), wrap_u64]
    congr 1; omega
  · rw [if_neg h0, show n / 9223372036854775808 = -1 by omega, show IntKind.u64.wrap (-1) = 18446744073709551615 by rw [wrap_u64]; omega, xor_ones, wrap_u64, wrap_u64]
    congr 1; omega
/-! ### Strings of bytes -/
theorem str_list (l : List Int) : (strOfNums l).toList = l.map fun n => UInt8.ofNat n.toNat := by rw [ByteArray.toList_eq]; rfl
theorem u8_inj {a b : Int} (ha : 0 ≤ a ∧ a ≤ 255) (hb : 0 ≤ b ∧ b ≤ 255) (h : UInt8.ofNat a.toNat = UInt8.ofNat b.toNat) : a = b := by
  have := congrArg UInt8.toNat h
  simp only [UInt8.toNat_ofNat'] at this
  omega
theorem map_inj : ∀ {a b : List Int}, NumPlain.Bytes a → NumPlain.Bytes b → (a.map fun n => UInt8.ofNat n.toNat) = (b.map fun n => UInt8.ofNat n.toNat) → a = b
  | [], [], _, _, _ => rfl
  | [], _ :: _, _, _, h => by simp at h
  | _ :: _, [], _, _, h => by simp at h
  | x :: a, y :: b, ha, hb, h => by
    simp only [List.map_cons, List.cons.injEq] at h
    rw [u8_inj ha.head hb.head h.1, map_inj ha.tail hb.tail h.2]
theorem str_inj {a b : List Int} (ha : NumPlain.Bytes a) (hb : NumPlain.Bytes b) : (strOfNums a).toList = (strOfNums b).toList ↔ a = b := by
  constructor
  · intro h; rw [str_list, str_list] at h; exact map_inj ha hb h
  · intro h; rw [h]
theorem str_extract (l : List Int) (n : Nat) : ((strOfNums l).extract 0 n).toList = (strOfNums (l.take n)).toList := by
  rw [ByteArray.toList_eq, ByteArray.toList_eq, ByteArray.data_extract, Array.toList_extract]
  simp [strOfNums, List.extract_eq_take_drop]
theorem bytes_take {l : List Int} (h : NumPlain.Bytes l) (n : Nat) : NumPlain.Bytes (l.take n) := fun c hc => h c (List.mem_of_mem_take hc)
theorem bytes_app {a b : List Int} (ha : NumPlain.Bytes a) (hb : NumPlain.Bytes b) : NumPlain.Bytes (a ++ b) := fun c hc => by
  rcases List.mem_append.1 hc with h | h
  · exact ha c h
  · exact hb c h
theorem bytes_of {l : List Int} (h : ∀ x ∈ l, (Lit.int .u8 x).wf = true) : NumPlain.Bytes l := fun c hc => Go.bounds_u8 (h c hc)
open NumPlain in
theorem putS_eq (k : Nat) (l : List Int) (n : Int) (h : I64 n) (hk : 12 ≤ k) (hl : l.length + 12 ≤ 140737488355328) : num_PutSigned.f k l n = some (l ++ pS n) := by
  have hp := pS_len h
  unfold num_PutSigned.f num_groups.f
  rw [zig_eq n h]
  simp only [Option.bind_some]
  unfold pS at hp ⊢
  rw [groups_l0 _ k l (by omega) (by omega)]
  try rfl
/-! ### Operations and states that may be -/
theorem rd_nth (l : List Int) (i : Nat) (h : i < l.length) : rd l (i : Int) = l[i] := by unfold rd; rw [Int.toNat_natCast, List.getD_eq_getElem?_getD, List.getElem?_eq_getElem h]; rfl
theorem cut_eq (n : Int) : objs_cut.f n = some (CodecPlain.cutP n) := by
  unfold objs_cut.f CodecPlain.cutP
  congr 1
  unfold mx mn
  repeat' split
  all_goals omega
theorem fits_eq (c a b : Int) : objs_Fits.f c a b = some (CodecPlain.fitsB c a b) := by
  unfold objs_Fits.f CodecPlain.fitsB
  by_cases h0 : 0 ≤ c
  · rw [if_pos h0, decide_eq_true h0]
    by_cases h1 : c ≤ 10
    · rw [if_pos h1, decide_eq_true h1, cut_eq, Option.bind_some]
      by_cases h2 : a = CodecPlain.cutP a
      · rw [if_pos h2, decide_eq_true h2, cut_eq, Option.bind_some]; rw [Bool.true_and, Bool.true_and, Bool.true_and]; rfl
      · rw [if_neg h2, decide_eq_false h2]; simp
    · rw [if_neg h1, decide_eq_false h1]; simp
  · rw [if_neg h0, decide_eq_false h0]; simp
open CodecPlain in
theorem pairs_l0 (l : List Int) (hl : l.length ≤ 1000000) (least : Int) : ∀ (n i k : Nat) (last : Int), i ≤ l.length → l.length - i ≤ n → n + 1 ≤ k → objs_pairs.l0 k l least last (i : Int) = some (prs least last (l.drop i) && decide ((l.length : Int) % 2 = 0) && decide ((l.length : Int) ≤ 128)) := by
  intro n
  induction n using Nat.strongRecOn with
  | ind n ih =>
    intro i k last hil hn hk
    obtain ⟨k, rfl⟩ : ∃ m, k = m + 1 := ⟨k - 1, by omega⟩
    have hw1 : wrap64 ((i : Int) + 1) = ((i + 1 : Nat) : Int) := by unfold wrap64; omega
    have hw2 : wrap64 ((i : Int) + 2) = ((i + 2 : Nat) : Int) := by unfold wrap64; omega
    simp only [objs_pairs.l0]
    rw [hw1, hw2]
    clear hw1 hw2
    by_cases hlt : i + 1 < l.length
    · have hd : l.drop i = l[i] :: l[i + 1] :: l.drop (i + 2) := by rw [List.drop_eq_getElem_cons (by omega), List.drop_eq_getElem_cons (by omega)]
      rw [if_pos (by omega), if_pos (by omega), if_pos (by omega), rd_nth l i (by omega), rd_nth l (i + 1) (by omega), hd, prs]
      by_cases h1 : l[i] ≤ last
      · rw [if_pos h1, decide_eq_false (show ¬ last < l[i] by omega)]; simp
      · rw [if_neg h1, decide_eq_true (show last < l[i] by omega)]
        by_cases h2 : l[i] > 255
        · rw [if_pos h2, decide_eq_false (show ¬ l[i] ≤ 255 by omega)]; simp
        · rw [if_neg h2, decide_eq_true (show l[i] ≤ 255 by omega)]
          rw [if_pos (show (0 : Int) ≤ ((i + 1 : Nat) : Int) by omega)]
          by_cases h3 : l[i + 1] < least
          · rw [if_pos h3, decide_eq_false (show ¬ least ≤ l[i + 1] by omega)]; simp
          · rw [if_neg h3, decide_eq_true (show least ≤ l[i + 1] by omega)]
            by_cases h4 : l[i + 1] > 1099511627776
            · rw [if_pos h4, decide_eq_false (show ¬ l[i + 1] ≤ 1099511627776 by omega)]; simp
            · rw [if_neg h4, decide_eq_true (show l[i + 1] ≤ 1099511627776 by omega), ih (n - 2) (by omega) (i + 2) k _ (by omega) (by omega) (by omega)]
              simp
    · have hp : prs least last (l.drop i) = true := by
        rcases Nat.lt_or_ge i l.length with h | h
        · have : l.drop i = [l[i]] := by rw [List.drop_eq_getElem_cons h, List.drop_eq_nil_of_le (by omega)]
          rw [this]; rfl
        · rw [List.drop_eq_nil_of_le h]; rfl
      rw [if_neg (by omega), hp]
      by_cases h : (l.length : Int) % 2 = 0
      · rw [if_pos h, decide_eq_true h]; simp
      · rw [if_neg h, decide_eq_false h]; simp
open CodecPlain in
theorem pairs_eq (l : List Int) (hl : l.length ≤ 1000000) (least : Int) (k : Nat) (hk : l.length + 1 ≤ k) : objs_pairs.f k l least = some (pairsB l least) := by
  unfold objs_pairs.f pairsB
  exact pairs_l0 l hl least l.length 0 k (-1) (by omega) (by omega) hk
open CodecPlain in
theorem any_eq (l : List Int) : (!(l.any fun n => n != cutI n)) = inB l := by
  unfold inB
  induction l with
  | nil => rfl
  | cons x l ih =>
    rw [List.any_cons, List.all_cons, ← ih, Bool.not_or]
    congr 1
    show (!(x != cutP x)) = decide (x = cutP x)
    by_cases h : x = cutP x
    · rw [decide_eq_true h, ← h]; simp
    · rw [decide_eq_false h]; simpa using h
open CodecPlain in
theorem may_j0 (b : Bool) (kind : Int) (l : List Int) (sealed : Bool) (eng : Int) (hl : l.length ≤ 1000000) (k : Nat) (hk : l.length + 1 ≤ k) : objs_May.j0 (k + 3) b kind l sealed eng = some (!b && (if kind = 0 ∨ kind = 1 then decide ((l.length : Int) = 1) && inB l else if kind = 2 ∨ kind = 3 then decide ((l.length : Int) ≤ 64) && inB l else if kind = 4 then pairsB l (-1099511627776) else if kind = 5 then pairsB l 0 else false)) := by
  have hsome : ∀ (c : Prop) [Decidable c] (x : Bool), (if c then some x else some false) = some (decide c && x) := by intro c _ x; by_cases h : c <;> simp [h]
  simp only [objs_May.j0]
  cases b with
  | true => rw [if_pos rfl]; rfl
  | false =>
    rw [if_neg (by decide)]
    unfold slices_ContainsFunc_int_int.f
    simp only [Option.bind_some, any_eq]
    have j2 : ∀ b2 : Bool, b2 = decide (kind = 2 ∨ kind = 3) → objs_May.j2 (k + 1) (inB l) kind b2 kind l sealed eng = some (if kind = 2 ∨ kind = 3 then decide ((l.length : Int) ≤ 64) && inB l else if kind = 4 then pairsB l (-1099511627776) else if kind = 5 then pairsB l 0 else false) := by
      intro b2 e
      simp only [objs_May.j2]
      subst e
      by_cases h : kind = 2 ∨ kind = 3
      · rw [decide_eq_true h, if_pos rfl, if_pos h]; exact hsome _ _
      · rw [decide_eq_false h, if_neg (by decide), if_neg h]
        by_cases h4 : kind = 4
        · rw [if_pos h4, if_pos h4, pairs_eq l hl _ k hk]; rfl
        · rw [if_neg h4, if_neg h4]
          by_cases h5 : kind = 5
          · rw [if_pos h5, if_pos h5, pairs_eq l hl _ k hk]; rfl
          · rw [if_neg h5, if_neg h5]
    have j1 : ∀ b1 : Bool, b1 = decide (kind = 0 ∨ kind = 1) → objs_May.j1 (k + 2) (inB l) kind b1 kind l sealed eng = some (if kind = 0 ∨ kind = 1 then decide ((l.length : Int) = 1) && inB l else if kind = 2 ∨ kind = 3 then decide ((l.length : Int) ≤ 64) && inB l else if kind = 4 then pairsB l (-1099511627776) else if kind = 5 then pairsB l 0 else false) := by
      intro b1 e
      simp only [objs_May.j1]
      subst e
      by_cases h : kind = 0 ∨ kind = 1
      · rw [decide_eq_true h, if_pos rfl, if_pos h]; exact hsome _ _
      · rw [decide_eq_false h, if_neg (by decide), if_neg h]
        by_cases h2 : kind = 2
        · rw [if_pos h2]; refine j2 _ ?_; simp [h2]
        · rw [if_neg h2]; refine j2 _ ?_; rw [show (kind == 3) = decide (kind = 3) from rfl, decide_eq_decide]; omega
    by_cases h0 : kind = 0
    · rw [if_pos h0, j1 _ (by simp [h0])]; rfl
    · rw [if_neg h0, j1 _ (by rw [show (kind == 1) = decide (kind = 1) from rfl, decide_eq_decide]; omega)]; rfl
open CodecPlain in
theorem may_eq (kind : Int) (l : List Int) (sealed : Bool) (eng : Int) (hl : l.length ≤ 1000000) (k : Nat) (hk : l.length + 4 ≤ k) : objs_May.f k kind l sealed eng = some (mayB kind l sealed eng) := by
  obtain ⟨k, rfl⟩ : ∃ m, k = m + 3 := ⟨k - 3, by omega⟩
  unfold objs_May.f mayB
  by_cases h0 : eng < 0
  · rw [if_pos h0, may_j0 _ _ _ _ _ hl k (by omega), decide_eq_false (show ¬ 0 ≤ eng by omega)]; simp
  · rw [if_neg h0, decide_eq_true (show 0 ≤ eng by omega)]
    by_cases h1 : eng ≥ 3
    · rw [if_pos h1, may_j0 _ _ _ _ _ hl k (by omega), decide_eq_false (show ¬ eng < 3 by omega)]; simp
    · rw [if_neg h1, decide_eq_true (show eng < 3 by omega)]
      cases sealed with
      | true => rw [if_pos rfl, may_j0 _ _ _ _ _ hl k (by omega)]; simp
      | false =>
        rw [if_neg (by decide), may_j0 _ _ _ _ _ hl k (by omega)]
        by_cases h2 : eng = 0
        · simp [h2]
        · rw [decide_eq_false h2, show (eng != 0) = true by simpa using h2]; simp
/-! ### Put -/
theorem bytes_i64 {l : List Int} (h : ∀ x ∈ l, (Lit.int .i64 x).wf = true) : ∀ x ∈ l, NumPlain.I64 x := fun x hx => i64_of (h x hx)
open NumPlain CodecPlain in
theorem putOp_eq (k : Nat) (l : List Int) (c a b : Int) (ha : I64 a) (hb : I64 b) (hk : 12 ≤ k) (hl : l.length + 50 ≤ 140737488355328) : codec_PutOp.f k l c a b = some (if fitsB c a b = true then (l ++ opB c a b, 0) else (l, 1)) := by
  have h1 := pt_len c; have h2 := pS_len ha
  unfold codec_PutOp.f
  rw [fits_eq, Option.bind_some]
  by_cases h : fitsB c a b = true
  · rw [if_pos h, if_pos h, put_eq k l c hk (by omega), Option.bind_some, putS_eq k _ a ha hk (by rw [List.length_append]; omega), Option.bind_some, putS_eq k _ b hb hk (by rw [List.length_append, List.length_append]; omega), Option.bind_some]
    simp [opB]
  · rw [if_neg h, if_neg h]
open NumPlain CodecPlain in
theorem enc_l0 (l : List Int) (hi : ∀ x ∈ l, I64 x) (hl : l.length ≤ 1000000) : ∀ (n i k : Nat) (x : List Int), i + n = l.length → n + 13 ≤ k → x.length + 10 * n + 12 ≤ 140737488355328 → codec_EncodeState.l0 k x l (l.length : Int) (i : Int) = some (x ++ numsB (l.drop i), 0) := by
  intro n
  induction n with
  | zero =>
    intro i k x hn hk hx
    obtain ⟨k, rfl⟩ : ∃ m, k = m + 1 := ⟨k - 1, by omega⟩
    simp only [codec_EncodeState.l0]
    rw [if_neg (by omega), List.drop_eq_nil_of_le (by omega)]
    simp [numsB]
  | succ n ih =>
    intro i k x hn hk hx
    obtain ⟨k, rfl⟩ : ∃ m, k = m + 1 := ⟨k - 1, by omega⟩
    have hlt : i < l.length := by omega
    have hw : wrap64 ((i : Int) + 1) = ((i + 1 : Nat) : Int) := by unfold wrap64; omega
    have hxi := hi l[i] (List.getElem_mem hlt)
    have hp := pS_len hxi
    simp only [codec_EncodeState.l0]
    rw [hw]
    clear hw
    rw [if_pos (by omega), if_pos (by omega), if_pos (by omega), rd_nth l i hlt, putS_eq k x _ hxi (by omega) (by omega), Option.bind_some, ih (i + 1) k _ (by omega) (by omega) (by rw [List.length_append]; omega), List.drop_eq_getElem_cons hlt, numsB_cons, List.append_assoc]
open NumPlain CodecPlain in
theorem enc_eq (kind : Int) (l : List Int) (sealed : Bool) (eng : Int) (hi : ∀ x ∈ l, I64 x) (hl : l.length ≤ 1000000) (k : Nat) (hk : l.length + 13 ≤ k) : codec_EncodeState.f k kind l sealed eng = some (encB kind l sealed eng) := by
  unfold codec_EncodeState.f encB
  rw [may_eq kind l sealed eng hl k (by omega), Option.bind_some]
  by_cases h : mayB kind l sealed eng = true
  · obtain ⟨h1, h2, h3, h4, h5, h6⟩ := mayB_facts h
    have g1 := pt_len kind; have g2 := pt_len (sealB sealed eng); have g3 := pt_len (l.length : Int)
    have hs : codec_seal.f kind l sealed eng = some (sealB sealed eng) := by
      unfold codec_seal.f sealB
      cases sealed with
      | true => rw [if_pos rfl, if_pos rfl, show wrap64 (eng + 1) = eng + 1 by unfold wrap64; omega]
      | false => rfl
    rw [if_pos h, if_pos h, put_eq k [] kind (by omega) (by simp), Option.bind_some, hs, Option.bind_some, put_eq k _ _ (by omega) (by rw [List.nil_append]; omega), Option.bind_some, put_eq k _ _ (by omega) (by rw [List.nil_append, List.length_append]; omega), Option.bind_some]
    have := enc_l0 l hi hl l.length 0 k ([] ++ pt kind ++ pt (sealB sealed eng) ++ pt (l.length : Int)) (by omega) (by omega) (by rw [List.nil_append, List.length_append, List.length_append]; omega)
    rw [show ((0 : Nat) : Int) = 0 from rfl] at this
    rw [this, List.drop_zero, List.nil_append]
    rfl
  · rw [if_neg h, if_neg h]
theorem eq_l0 (l m : List Int) (hl : l.length = m.length) (hm : l.length ≤ 1000000) : ∀ (n i k : Nat), i + n = l.length → n + 1 ≤ k → slices_Equal_int_int.l0 k l m (l.length : Int) (i : Int) = some (decide (l.drop i = m.drop i)) := by
  intro n
  induction n with
  | zero =>
    intro i k h hk
    obtain ⟨k, rfl⟩ : ∃ j, k = j + 1 := ⟨k - 1, by omega⟩
    have e : ¬ ((i : Int) < (l.length : Int)) := by omega
    simp only [slices_Equal_int_int.l0, if_neg e]
    rw [List.drop_eq_nil_of_le (by omega), List.drop_eq_nil_of_le (by omega)]
    rfl
  | succ n ih =>
    intro i k h hk
    obtain ⟨k, rfl⟩ : ∃ j, k = j + 1 := ⟨k - 1, by omega⟩
    have hi : i < l.length := by omega
    have hi' : i < m.length := by omega
    simp only [slices_Equal_int_int.l0]
    rw [if_pos (show ((i : Int) < (l.length : Int)) by omega), if_pos (by omega), if_pos (by omega), if_pos (by omega), rd_nth l i hi, rd_nth m i hi', show wrap64 ((i : Int) + 1) = ((i + 1 : Nat) : Int) from by unfold wrap64; omega]
    rw [List.drop_eq_getElem_cons hi, List.drop_eq_getElem_cons hi']
    by_cases e : l[i] = m[i]
    · rw [if_pos e, ih (i + 1) k (by omega) (by omega)]
      congr 1
      rw [decide_eq_decide]
      exact ⟨fun h => by rw [e, h], fun h => (List.cons.inj h).2⟩
    · rw [if_neg e, decide_eq_false (fun h => e (List.cons.inj h).1)]
theorem eq_eq (l m : List Int) (hm : l.length ≤ 1000000) (k : Nat) (hk : l.length + 1 ≤ k) : slices_Equal_int_int.f k l m = some (decide (l = m)) := by
  unfold slices_Equal_int_int.f
  by_cases hl : l.length = m.length
  · rw [if_pos (by omega)]
    have := eq_l0 l m hl hm l.length 0 k (by omega) hk
    simpa using this
  · rw [if_neg (by omega), decide_eq_false (fun e => hl (by rw [e]))]
theorem same_eq (kind : Int) (l : List Int) (sealed : Bool) (eng : Int) (kind' : Int) (l' : List Int) (sealed' : Bool) (eng' : Int) (hm : l.length ≤ 1000000) (k : Nat) (hk : l.length + 1 ≤ k) :
    objs_Same.f k kind l sealed eng kind' l' sealed' eng' = some (decide (kind = kind' ∧ sealed = sealed' ∧ eng = eng' ∧ l = l')) := by
  unfold objs_Same.f
  by_cases h1 : kind = kind'
  · rw [if_pos h1]
    by_cases h2 : sealed = sealed'
    · rw [if_pos (by simpa using h2)]
      by_cases h3 : eng = eng'
      · rw [if_pos h3, eq_eq l l' hm k hk, Option.bind_some]
        simp [h1, h2, h3]
      · rw [if_neg h3]; simp [h3]
    · rw [if_neg (by simpa using h2)]; simp [h2]
  · rw [if_neg h1]; simp [h1]
open NumPlain CodecPlain in
theorem told (kind : Int) (l : List Int) (sealed : Bool) (eng : Int) (kind' : Int) (l' : List Int) (sealed' : Bool) (eng' : Int) (hl : ∀ x ∈ l, I64 x) (hl' : ∀ x ∈ l', I64 x) (ha : (encB kind l sealed eng).2 = 0) (hb : (encB kind' l' sealed' eng').2 = 0) :
    sameText (encB kind l sealed eng).1 (encB kind' l' sealed' eng').1 = decide (kind = kind' ∧ sealed = sealed' ∧ eng = eng' ∧ l = l') := by
  unfold encB at ha hb ⊢
  split at ha
  case isFalse => simp at ha
  case isTrue h1 =>
    split at hb
    case isFalse => simp at hb
    case isTrue h2 =>
      rw [if_pos h1, if_pos h2]
      unfold sameText
      rw [Bool.eq_iff_iff, beq_iff_eq, str_inj (stB_bytes _ _ _) (stB_bytes _ _ _), decide_eq_true_eq]
      constructor
      · intro e
        obtain ⟨e1, e2, e3, _⟩ := stB_front (r := []) (s := []) (may_ok hl h1) (may_ok hl' h2) (by rw [List.append_nil, List.append_nil]; exact e)
        obtain ⟨s1, s2⟩ := seal_back h1
        obtain ⟨t1, t2⟩ := seal_back h2
        rw [e2] at s1 s2
        exact ⟨e1, s1.symm.trans t1, s2.symm.trans t2, e3⟩
      · rintro ⟨rfl, rfl, rfl, rfl⟩
        rfl
open NumPlain CodecPlain in
theorem TopForms : ∀ (a0_0 : Int) (l0_1 : List Int) (a0_2 : Bool) (a0_3 : Int) (a1_0 : Int) (l1_1 : List Int) (a1_2 : Bool) (a1_3 : Int) (a2_0 a2_1 a2_2 a3_0 a3_1 a3_2 : Int), (Lit.int .i64 a0_0).wf = true → l0_1.length ≤ maxLen → (∀ x ∈ l0_1, (Lit.int .i64 x).wf = true) → (Lit.int .i64 a0_3).wf = true → (Lit.int .i64 a1_0).wf = true → l1_1.length ≤ maxLen → (∀ x ∈ l1_1, (Lit.int .i64 x).wf = true) → (Lit.int .i64 a1_3).wf = true → (Lit.int .i64 a2_0).wf = true → (Lit.int .i64 a2_1).wf = true → (Lit.int .i64 a2_2).wf = true → (Lit.int .i64 a3_0).wf = true → (Lit.int .i64 a3_1).wf = true → (Lit.int .i64 a3_2).wf = true →
    ∃ k, ferrymantop_TopForms.f k a0_0 l0_1 a0_2 a0_3 a1_0 l1_1 a1_2 a1_3 a2_0 a2_1 a2_2 a3_0 a3_1 a3_2 = some true := by
  intro kind l sealed eng kind' l' sealed' eng' c a b c' a' b' _ _ hl _ _ _ hl' _ _ ha hb _ ha' hb'
  have hl := bytes_i64 hl
  have hl' := bytes_i64 hl'
  have ha := i64_of ha
  have hb := i64_of hb
  have ha' := i64_of ha'
  have hb' := i64_of hb'
  refine ⟨1000, ?_⟩
  unfold ferrymantop_TopForms.f
  by_cases hm : l.length > 300 ∨ l'.length > 300
  · rw [if_pos hm]
  · rw [if_neg hm]
    have h3 : l.length ≤ 300 := by omega
    have h4 : l'.length ≤ 300 := by omega
    rw [enc_eq kind l sealed eng hl (by omega) 1000 (by omega), Option.bind_some, enc_eq kind' l' sealed' eng' hl' (by omega) 1000 (by omega), Option.bind_some, putOp_eq 1000 [] c a b ha hb (by omega) (by simp), Option.bind_some, putOp_eq 1000 [] c' a' b' ha' hb' (by omega) (by simp), Option.bind_some, same_eq kind l sealed eng kind' l' sealed' eng' (by omega) 1000 (by omega), Option.bind_some]
    rw [if_pos]
    refine ⟨told kind l sealed eng kind' l' sealed' eng' hl hl', ?_⟩
    simp only [List.nil_append]
    by_cases h : fitsB c a b = true
    · rw [if_pos h]
      by_cases g : fitsB c' a' b' = true
      · rw [if_pos g]
        intro _ _
        unfold sameText
        simp only
        have e : ((strOfNums (opB c a b)).toList == (strOfNums (opB c' a' b')).toList) = (c == c' && (a == a' && b == b')) := by
          rw [Bool.eq_iff_iff, beq_iff_eq, str_inj (opB_bytes _ _ _) (opB_bytes _ _ _)]
          simp only [Bool.and_eq_true, beq_iff_eq]
          constructor
          · intro e
            obtain ⟨e1, e2, e3, _⟩ := opB_front (r := []) (s := []) h g (by rw [List.append_nil, List.append_nil]; exact e)
            exact ⟨e1, e2, e3⟩
          · rintro ⟨rfl, rfl, rfl⟩
            rfl
        rw [e]
        simp
      · rw [if_neg g]
        intro _ h
        cases h
    · rw [if_neg h]
      intro h
      cases h
end Go.Proofs.YtgljebaiakhbfaaGreat.Pure
