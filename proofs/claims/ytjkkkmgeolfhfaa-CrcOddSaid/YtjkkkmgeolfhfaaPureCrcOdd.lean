/- What this text proves: bytes of which one bit, or three, are turned have another sum; conditions: none beyond the statement's own. -/
import Derived.Test.YtjkkkmgeolfhfaaQCrcOddx1
import Derived.Test.YtjkkkmgeolfhfaaCrcMath
import Derived.OpenShut
import Derived.Test.YtjkkkmgeolfhfaaWSized
namespace Go.Proofs.Ytjkkkmgeolfhfaa.Pure
open Go.RowKit Go.Proofs.Ytjkkkmgeolfhfaa.QCrcOdd Go.Proofs.YtjkkkmgeolfhfaaW.PrintWords Go.Proofs.YtjkkkmgeolfhfaaW.PrintLast Go.Proofs.YtjkkkmgeolfhfaaW.PrintMore
/-! ### Sums -/
theorem bytes_of {l : List Int} (h : ∀ x ∈ l, (Lit.int .u8 x).wf = true) : CrcMath.Bytes l := fun c hc => Go.bounds_u8 (h c hc)
theorem more_eq (a : Int) (l : List Int) (h : CrcMath.Bytes l) : crc_More.f a l = some ((CrcMath.more (BitVec.ofInt 32 a) l).toNat : Int) := by
  unfold crc_More.f Own.moreF
  exact if_pos h
theorem sum_eq (l : List Int) (h : CrcMath.Bytes l) : crc_Sum.f l = some ((CrcMath.more 0#32 l).toNat : Int) := by
  unfold crc_Sum.f
  rw [more_eq 0 l h]
  rfl
theorem awake_eq : ferrymanlaw02_awake.f = some true := rfl
theorem toNat_inj (x y : BitVec 32) : ((x.toNat : Int) = (y.toNat : Int)) ↔ x = y := by
  constructor
  · intro h; apply BitVec.eq_of_toNat_eq; omega
  · intro h; rw [h]
theorem ofInt_toNat (x : BitVec 32) : BitVec.ofInt 32 (x.toNat : Int) = x := Own.ofInt_toNat x
theorem toNat_ofInt {a : Int} (h : (Lit.int .u32 a).wf = true) : ((BitVec.ofInt 32 a).toNat : Int) = a := by
  have := Go.bounds_u32 h
  rw [BitVec.toNat_ofInt]; omega
theorem ofInt_inj {a b : Int} (ha : (Lit.int .u32 a).wf = true) (hb : (Lit.int .u32 b).wf = true) (h : BitVec.ofInt 32 a = BitVec.ofInt 32 b) : a = b := by
  rw [← toNat_ofInt ha, ← toNat_ofInt hb, h]
theorem bytes_app {a b : List Int} (ha : CrcMath.Bytes a) (hb : CrcMath.Bytes b) : CrcMath.Bytes (a ++ b) := fun c hc => by
  rcases List.mem_append.1 hc with h | h
  · exact ha c h
  · exact hb c h
theorem bytes_one {c : Int} (h : CrcMath.Byte c) : CrcMath.Bytes [c] := fun d hd => by simp only [List.mem_singleton] at hd; rw [hd]; exact h
/-! ### A bit turned, as the program turns it -/
theorem bx_eq (c d : Int) : Go.bits .xor .u8 c d = CrcMath.bx c d := by
  have e : Go.bits .xor .u8 c d = IntKind.u8.wrap ((BitVec.ofInt 8 c ^^^ BitVec.ofInt 8 d).toNat : Int) := rfl
  have := (BitVec.ofInt 8 c ^^^ BitVec.ofInt 8 d).isLt
  rw [e, Go.IntKind.wrap_u8]; unfold CrcMath.bx; omega
theorem wrap_u64_small (n : Nat) (h : n < 2 ^ 63) : IntKind.u64.wrap (n : Int) = n := by
  have : IntKind.u64.wrap (n : Int) = (n : Int) % 18446744073709551616 := by simp [IntKind.wrap, IntKind.bits, IntKind.signed]
  rw [this]; omega
theorem shl_one (j : Nat) (h : j < 8) : shl .u8 1 (j : Int) = ((1 <<< j : Nat) : Int) := by
  have : ∀ j : Fin 8, shl .u8 1 ((j.val : Nat) : Int) = ((1 <<< j.val : Nat) : Int) := by decide +kernel
  exact this ⟨j, h⟩
theorem turn_eq (l : List Int) (m : Nat) (hm : m < 2 ^ 62) :
    l.set ((wrap64 (Int.tdiv (m : Int) 8)) : Int).toNat (Go.bits .xor .u8 (rd l (wrap64 (Int.tdiv (m : Int) 8))) (shl .u8 1 (IntKind.u64.wrap (Int.tmod (m : Int) 8)))) = CrcMath.flip l m := by
  have e1 : wrap64 (Int.tdiv (m : Int) 8) = ((m / 8 : Nat) : Int) := by
    rw [Int.tdiv_eq_ediv_of_nonneg (by omega)]; unfold wrap64; omega
  have e2 : IntKind.u64.wrap (Int.tmod (m : Int) 8) = ((m % 8 : Nat) : Int) := by
    rw [Int.tmod_eq_emod_of_nonneg (by omega), show (m : Int) % 8 = ((m % 8 : Nat) : Int) by omega]
    exact wrap_u64_small _ (by omega)
  rw [e1, e2, shl_one _ (Nat.mod_lt _ (by omega)), bx_eq]
  unfold rd CrcMath.flip
  simp only [Int.toNat_natCast]
theorem div_eq (m : Nat) (hm : m < 2 ^ 62) : wrap64 (Int.tdiv (m : Int) 8) = ((m / 8 : Nat) : Int) := by
  rw [Int.tdiv_eq_ediv_of_nonneg (by omega)]; unfold wrap64; omega
theorem mod_nonneg (m : Nat) : 0 ≤ IntKind.u64.wrap (Int.tmod (m : Int) 8) := by
  rw [Int.tmod_eq_emod_of_nonneg (by omega), show (m : Int) % 8 = ((m % 8 : Nat) : Int) by omega, wrap_u64_small _ (by omega)]
  omega
theorem odd_round (l cur zs : List Int) (x : Int) (k i m : Nat) (hi : i < 3) (hz : zs.length = 3) (hr : rd zs (i : Int) = (m : Int)) (hm : m < 8 * cur.length) (hs : cur.length ≤ 1000) :
    ferrymanlaw02_CrcOdd.l0 (k + 1) l x true cur zs (i : Int) = ferrymanlaw02_CrcOdd.l0 k l x true (CrcMath.flip cur m) zs ((i + 1 : Nat) : Int) := by
  have d := div_eq m (by omega)
  have mm := mod_nonneg m
  have hw : wrap64 ((i : Int) + 1) = ((i + 1 : Nat) : Int) := by unfold wrap64; omega
  rw [ferrymanlaw02_CrcOdd.l0, hr, hz, turn_eq cur m (by omega), d, hw]
  clear d hw
  rw [if_pos (by omega), if_pos (by omega), if_pos (by omega), if_pos (by omega), if_pos (by omega), if_pos mm]
theorem odd_last (l cur zs : List Int) (a : Nat) (k : Nat) (hl : CrcMath.Bytes l) (hc : CrcMath.Bytes cur) (ha : a < 8 * l.length) (hs : l.length ≤ 1000)
    (p1 : ¬ CrcMath.more 0#32 l = CrcMath.more 0#32 cur) (p2 : ¬ CrcMath.more 0#32 l = CrcMath.more 0#32 (CrcMath.flip l a)) :
    ferrymanlaw02_CrcOdd.l0 (k + 1) l (a : Int) true cur zs ((3 : Nat) : Int) = some true := by
  have h3 : ¬ ((3 : Nat) : Int) < 3 := by omega
  have hn : ([] : List Int).length + l.length < 140737488355328 := by rw [List.length_nil]; omega
  have d := div_eq a (by omega)
  have mm := mod_nonneg a
  rw [ferrymanlaw02_CrcOdd.l0, if_neg h3, if_pos hn, List.nil_append, Option.bind_some]
  rw [turn_eq l a (by omega), d]
  clear d
  rw [if_pos (by omega), if_pos (by omega), if_pos mm, if_pos rfl, sum_eq l hl, sum_eq _ hc]
  simp only [Option.bind_some]
  rw [if_neg (fun e => p1 ((toNat_inj _ _).1 e)), sum_eq _ (CrcMath.flip_bytes hl a)]
  simp only [Option.bind_some]
  rw [Option.some.injEq, bne_iff_ne]
  exact fun e => p2 ((toNat_inj _ _).1 e)
theorem odd_l0 (l : List Int) (hl : CrcMath.Bytes l) (hs : l.length ≤ 1000) (a b c : Nat) (ha : a < 8 * l.length) (hb : b < 8 * l.length) (hc : c < 8 * l.length) (k : Nat) :
    ferrymanlaw02_CrcOdd.l0 (k + 1 + 1 + 1 + 1) l (a : Int) true l [(a : Int), (b : Int), (c : Int)] 0 = some true := by
  have h1 := CrcMath.flip_length l a
  have h2 := CrcMath.flip_length (CrcMath.flip l a) b
  have b1 := CrcMath.flip_bytes hl a
  have b2 := CrcMath.flip_bytes b1 b
  have b3 := CrcMath.flip_bytes b2 c
  have e0 := odd_round l l [(a : Int), (b : Int), (c : Int)] a (k + 1 + 1 + 1) 0 a (by omega) rfl rfl ha hs
  have e1 := odd_round l (CrcMath.flip l a) [(a : Int), (b : Int), (c : Int)] a (k + 1 + 1) 1 b (by omega) rfl rfl (by omega) (by omega)
  have e2 := odd_round l (CrcMath.flip (CrcMath.flip l a) b) [(a : Int), (b : Int), (c : Int)] a (k + 1) 2 c (by omega) rfl rfl (by omega) (by omega)
  rw [show ((0 : Nat) : Int) = 0 from rfl] at e0
  rw [e0, e1, e2]
  refine odd_last l _ _ a k hl b3 ha hs ?_ ?_
  · refine CrcMath.more_odd ?_
    rw [CrcMath.parL_flip b2 (by omega), CrcMath.parL_flip b1 (by omega), CrcMath.parL_flip hl ha]
    cases CrcMath.parL l <;> rfl
  · exact CrcMath.more_odd (CrcMath.parL_flip hl ha)
theorem CrcOdd : ferrymanlaw02_CrcOdd.Pure := by
  intro l a b c _ hs hl ha hb hc
  have hl := bytes_of hl
  have ha := Go.bounds_i64 ha
  have hb := Go.bounds_i64 hb
  have hc := Go.bounds_i64 hc
  refine ⟨6, ?_⟩
  unfold ferrymanlaw02_CrcOdd.f
  rw [awake_eq]
  simp only [Option.bind_some]
  have out : ferrymanlaw02_CrcOdd.j0 6 l a b c true true = some true := by rw [ferrymanlaw02_CrcOdd.j0, if_pos rfl]
  by_cases h : (l.length : Int) > 1000
  · rw [if_pos h]; exact out
  · have hw : wrap64 (8 * (l.length : Int)) = ((8 * l.length : Nat) : Int) := by unfold wrap64; omega
    rw [if_neg h, hw]
    clear hw
    by_cases h1 : a < 0
    · rw [if_pos h1]; exact out
    · rw [if_neg h1]
      by_cases h2 : a ≥ ((8 * l.length : Nat) : Int)
      · rw [if_pos h2]; exact out
      · rw [if_neg h2]
        by_cases h3 : b < 0
        · rw [if_pos h3]; exact out
        · rw [if_neg h3]
          by_cases h4 : b ≥ ((8 * l.length : Nat) : Int)
          · rw [if_pos h4]; exact out
          · rw [if_neg h4]
            by_cases h5 : c < 0
            · rw [if_pos h5]; exact out
            · rw [if_neg h5]
              by_cases h6 : c ≥ ((8 * l.length : Nat) : Int)
              · rw [decide_eq_true h6]; exact out
              · rw [decide_eq_false h6]
                obtain ⟨a, rfl⟩ := Int.eq_ofNat_of_zero_le (show 0 ≤ a by omega)
                obtain ⟨b, rfl⟩ := Int.eq_ofNat_of_zero_le (show 0 ≤ b by omega)
                obtain ⟨c, rfl⟩ := Int.eq_ofNat_of_zero_le (show 0 ≤ c by omega)
                rw [ferrymanlaw02_CrcOdd.j0, if_neg (by simp), if_pos (by simp; omega), List.nil_append]
                exact odd_l0 l hl (by omega) a b c (by omega) (by omega) (by omega) 1
end Go.Proofs.Ytjkkkmgeolfhfaa.Pure
namespace Go.Proofs.Ytjkkkmgeolfhfaa.PrintWords
/-- The printed row asks for this fact by this name. -/
abbrev sized_ints := @Go.Proofs.YtjkkkmgeolfhfaaW.PrintWords.sized_ints
end Go.Proofs.Ytjkkkmgeolfhfaa.PrintWords
