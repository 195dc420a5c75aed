/- What this text proves: bytes of which some bits within 32, one behind the other, are turned have another sum; conditions: none beyond the statement's own. -/
import Derived.Test.YtjkkkmgeolfhfaaQCrcBurstsx1
import Derived.Test.YtjkkkmgeolfhfaaCrcMath
import Derived.OpenShut
import Derived.Test.YtjkkkmgeolfhfaaWSized
namespace Go.Proofs.Ytjkkkmgeolfhfaa.Pure
open Go.RowKit Go.Proofs.Ytjkkkmgeolfhfaa.QCrcBursts Go.Proofs.YtjkkkmgeolfhfaaW.PrintWords Go.Proofs.YtjkkkmgeolfhfaaW.PrintLast Go.Proofs.YtjkkkmgeolfhfaaW.PrintMore
/-! ### Sums -/
theorem bytes_of {l : List Int} (h : ∀ x ∈ l, (Lit.int .u8 x).wf = true) : CrcMath.Bytes l := fun c hc => Go.bounds_u8 (h c hc)
theorem more_eq (a : Int) (l : List Int) (h : CrcMath.Bytes l) : crc_More.f a l = some ((CrcMath.more (BitVec.ofInt 32 a) l).toNat : Int) := by
  unfold crc_More.f Own.moreF
  exact if_pos h
theorem sum_eq (l : List Int) (h : CrcMath.Bytes l) : crc_Sum.f l = some ((CrcMath.more 0#32 l).toNat : Int) := by
  unfold crc_Sum.f
  rw [more_eq 0 l h]
  rfl
theorem awake_eq : ferrymanlaw02_awake.f = some true := rfl
theorem toNat_inj (x y : BitVec 32) : ((x.toNat : Int) = (y.toNat : Int)) ↔ x = y := by
  constructor
  · intro h; apply BitVec.eq_of_toNat_eq; omega
  · intro h; rw [h]
theorem ofInt_toNat (x : BitVec 32) : BitVec.ofInt 32 (x.toNat : Int) = x := Own.ofInt_toNat x
theorem toNat_ofInt {a : Int} (h : (Lit.int .u32 a).wf = true) : ((BitVec.ofInt 32 a).toNat : Int) = a := by
  have := Go.bounds_u32 h
  rw [BitVec.toNat_ofInt]; omega
theorem ofInt_inj {a b : Int} (ha : (Lit.int .u32 a).wf = true) (hb : (Lit.int .u32 b).wf = true) (h : BitVec.ofInt 32 a = BitVec.ofInt 32 b) : a = b := by
  rw [← toNat_ofInt ha, ← toNat_ofInt hb, h]
theorem bytes_app {a b : List Int} (ha : CrcMath.Bytes a) (hb : CrcMath.Bytes b) : CrcMath.Bytes (a ++ b) := fun c hc => by
  rcases List.mem_append.1 hc with h | h
  · exact ha c h
  · exact hb c h
theorem bytes_one {c : Int} (h : CrcMath.Byte c) : CrcMath.Bytes [c] := fun d hd => by simp only [List.mem_singleton] at hd; rw [hd]; exact h
/-! ### A bit turned, as the program turns it -/
theorem bx_eq (c d : Int) : Go.bits .xor .u8 c d = CrcMath.bx c d := by
  have e : Go.bits .xor .u8 c d = IntKind.u8.wrap ((BitVec.ofInt 8 c ^^^ BitVec.ofInt 8 d).toNat : Int) := rfl
  have := (BitVec.ofInt 8 c ^^^ BitVec.ofInt 8 d).isLt
  rw [e, Go.IntKind.wrap_u8]; unfold CrcMath.bx; omega
theorem wrap_u64_small (n : Nat) (h : n < 2 ^ 63) : IntKind.u64.wrap (n : Int) = n := by
  have : IntKind.u64.wrap (n : Int) = (n : Int) % 18446744073709551616 := by simp [IntKind.wrap, IntKind.bits, IntKind.signed]
  rw [this]; omega
theorem shl_one (j : Nat) (h : j < 8) : shl .u8 1 (j : Int) = ((1 <<< j : Nat) : Int) := by
  have : ∀ j : Fin 8, shl .u8 1 ((j.val : Nat) : Int) = ((1 <<< j.val : Nat) : Int) := by decide +kernel
  exact this ⟨j, h⟩
theorem turn_eq (l : List Int) (m : Nat) (hm : m < 2 ^ 62) :
    l.set ((wrap64 (Int.tdiv (m : Int) 8)) : Int).toNat (Go.bits .xor .u8 (rd l (wrap64 (Int.tdiv (m : Int) 8))) (shl .u8 1 (IntKind.u64.wrap (Int.tmod (m : Int) 8)))) = CrcMath.flip l m := by
  have e1 : wrap64 (Int.tdiv (m : Int) 8) = ((m / 8 : Nat) : Int) := by
    rw [Int.tdiv_eq_ediv_of_nonneg (by omega)]; unfold wrap64; omega
  have e2 : IntKind.u64.wrap (Int.tmod (m : Int) 8) = ((m % 8 : Nat) : Int) := by
    rw [Int.tmod_eq_emod_of_nonneg (by omega), show (m : Int) % 8 = ((m % 8 : Nat) : Int) by omega]
    exact wrap_u64_small _ (by omega)
  rw [e1, e2, shl_one _ (Nat.mod_lt _ (by omega)), bx_eq]
  unfold rd CrcMath.flip
  simp only [Int.toNat_natCast]
theorem div_eq (m : Nat) (hm : m < 2 ^ 62) : wrap64 (Int.tdiv (m : Int) 8) = ((m / 8 : Nat) : Int) := by
  rw [Int.tdiv_eq_ediv_of_nonneg (by omega)]; unfold wrap64; omega
theorem mod_nonneg (m : Nat) : 0 ≤ IntKind.u64.wrap (Int.tmod (m : Int) 8) := by
  rw [Int.tmod_eq_emod_of_nonneg (by omega), show (m : Int) % 8 = ((m % 8 : Nat) : Int) by omega, wrap_u64_small _ (by omega)]
  omega
theorem bit_eq (w : BitVec 32) (i : Nat) (h : i < 32) : (Int.tmod (shr .u32 (w.toNat : Int) (i : Int)) 2 = 1) ↔ w.getLsbD i = true := by
  have e : shr .u32 (w.toNat : Int) (i : Int) = ((w.toNat / 2 ^ i : Nat) : Int) := by
    unfold shr
    rw [show min ((i : Int)).toNat IntKind.u32.bits = i by simp only [Int.toNat_natCast]; exact Nat.min_eq_left (by show i ≤ 32; omega)]
    push_cast
    rfl
  rw [e, BitVec.getLsbD, Nat.testBit_eq_decide_div_mod_eq]
  generalize w.toNat / 2 ^ i = q
  rw [Int.tmod_eq_emod_of_nonneg (by omega)]
  simp only [decide_eq_true_eq]
  omega
theorem bursts_l0 (l : List Int) (hl : CrcMath.Bytes l) (hs : l.length ≤ 1000) (a : Nat) (ha : a < 8 * l.length) (w : BitVec 32) : ∀ (d i k : Nat), i + d = 32 → d + 1 ≤ k →
    ferrymanlaw02_CrcBursts.l0 k l (a : Int) (w.toNat : Int) true (CrcMath.burst l a w i) (CrcMath.turned (8 * l.length) a w i) (i : Int) = some true := by
  intro d
  induction d with
  | zero =>
    intro i k hi hk
    obtain ⟨k, rfl⟩ : ∃ m, k = m + 1 := ⟨k - 1, by omega⟩
    obtain rfl : i = 32 := by omega
    rw [ferrymanlaw02_CrcBursts.l0, if_neg (by omega), if_pos rfl, sum_eq l hl, sum_eq _ (CrcMath.burst_bytes hl a w 32)]
    simp only [Option.bind_some]
    congr 1
    have h := CrcMath.more_burst 0#32 l hl a w ha
    have h2 : (((CrcMath.more 0#32 l).toNat : Int) != ((CrcMath.more 0#32 (CrcMath.burst l a w 32)).toNat : Int)) = CrcMath.turned (8 * l.length) a w 32 := by
      cases ht : CrcMath.turned (8 * l.length) a w 32 with
      | true =>
        rw [bne_iff_ne]
        exact fun e => h.2 ht ((toNat_inj _ _).1 e)
      | false =>
        rw [bne_eq_false_iff_eq, toNat_inj]
        apply Classical.byContradiction
        intro e
        have := h.1 e
        rw [ht] at this; cases this
    rw [h2, beq_self_eq_true]
  | succ d ih =>
    intro i k hi hk
    obtain ⟨k, rfl⟩ : ∃ m, k = m + 1 := ⟨k - 1, by omega⟩
    have hlen := CrcMath.burst_length l a w i
    have hw1 : wrap64 ((i : Int) + 1) = ((i + 1 : Nat) : Int) := by unfold wrap64; omega
    have hw2 : wrap64 ((a : Int) + (i : Int)) = ((a + i : Nat) : Int) := by unfold wrap64; omega
    have hw3 : wrap64 (8 * ((CrcMath.burst l a w i).length : Int)) = ((8 * l.length : Nat) : Int) := by rw [hlen]; unfold wrap64; omega
    have hu := wrap_u64_small i (by omega)
    rw [ferrymanlaw02_CrcBursts.l0, hw1, hw2, hw3, hu]
    clear hw1 hw2 hw3 hu
    rw [if_pos (by omega), if_pos (by omega)]
    by_cases hb : w.getLsbD i = true
    · rw [if_pos ((bit_eq w i (by omega)).2 hb)]
      by_cases hk2 : a + i < 8 * l.length
      · have hd := div_eq (a + i) (by omega)
        have e1 : CrcMath.burst l a w (i + 1) = CrcMath.flip (CrcMath.burst l a w i) (a + i) := by rw [CrcMath.burst, hb, decide_eq_true hk2]; rfl
        have e2 : CrcMath.turned (8 * l.length) a w (i + 1) = true := by rw [CrcMath.turned, hb, decide_eq_true hk2]; rfl
        rw [if_pos (by omega), turn_eq _ (a + i) (by omega), hd, hlen, if_pos (by omega), if_pos (by omega), if_pos (mod_nonneg (a + i)), ← e1]
        have := ih (i + 1) k (by omega) (by omega)
        rwa [e2] at this
      · have e1 : CrcMath.burst l a w (i + 1) = CrcMath.burst l a w i := by rw [CrcMath.burst, hb, decide_eq_false hk2]; rfl
        have e2 : CrcMath.turned (8 * l.length) a w (i + 1) = CrcMath.turned (8 * l.length) a w i := by rw [CrcMath.turned, hb, decide_eq_false hk2]; rfl
        rw [if_neg (by omega), ← e1, ← e2]
        exact ih (i + 1) k (by omega) (by omega)
    · have hb' : w.getLsbD i = false := by cases h : w.getLsbD i <;> simp_all
      have e1 : CrcMath.burst l a w (i + 1) = CrcMath.burst l a w i := by rw [CrcMath.burst, hb']; rfl
      have e2 : CrcMath.turned (8 * l.length) a w (i + 1) = CrcMath.turned (8 * l.length) a w i := by rw [CrcMath.turned, hb']; rfl
      rw [if_neg (fun e => hb ((bit_eq w i (by omega)).1 e)), ← e1, ← e2]
      exact ih (i + 1) k (by omega) (by omega)
theorem CrcBursts : ferrymanlaw02_CrcBursts.Pure := by
  intro l a w _ hs hl ha hw
  have hl := bytes_of hl
  have ha := Go.bounds_i64 ha
  refine ⟨40, ?_⟩
  unfold ferrymanlaw02_CrcBursts.f
  rw [awake_eq]
  simp only [Option.bind_some]
  have out : ferrymanlaw02_CrcBursts.j0 40 l a w true true = some true := by rw [ferrymanlaw02_CrcBursts.j0, if_pos rfl]
  by_cases h : (l.length : Int) > 1000
  · rw [if_pos h]; exact out
  · have hw8 : wrap64 (8 * (l.length : Int)) = ((8 * l.length : Nat) : Int) := by unfold wrap64; omega
    rw [if_neg h, hw8]
    clear hw8
    by_cases h1 : a < 0
    · rw [if_pos h1]; exact out
    · rw [if_neg h1]
      by_cases h2 : a ≥ ((8 * l.length : Nat) : Int)
      · rw [if_pos h2]; exact out
      · rw [if_neg h2]
        by_cases h3 : w = 0
        · rw [h3] at out ⊢; exact out
        · rw [beq_eq_false_iff_ne.2 h3, ferrymanlaw02_CrcBursts.j0, if_neg (by simp), if_pos (by simp; omega), List.nil_append]
          obtain ⟨a, rfl⟩ := Int.eq_ofNat_of_zero_le (show 0 ≤ a by omega)
          have := bursts_l0 l hl (by omega) a (by omega) (BitVec.ofInt 32 w) 32 0 39 (by omega) (by omega)
          rw [toNat_ofInt hw] at this
          exact this
end Go.Proofs.Ytjkkkmgeolfhfaa.Pure
namespace Go.Proofs.Ytjkkkmgeolfhfaa.PrintWords
/-- The printed row asks for this fact by this name. -/
abbrev sized_ints := @Go.Proofs.YtjkkkmgeolfhfaaW.PrintWords.sized_ints
end Go.Proofs.Ytjkkkmgeolfhfaa.PrintWords
