/- What this text proves: the sum of bytes that were turned by others is told by three sums; conditions: none beyond the statement's own. -/
import Derived.Test.YtjkkkmgeolfhfaaQCrcLinearx2
import Derived.Test.YtjkkkmgeolfhfaaCrcMath
import Derived.OpenShut
import Derived.Test.YtjkkkmgeolfhfaaWSized
namespace Go.Proofs.Ytjkkkmgeolfhfaa.Pure
open Go.RowKit Go.Proofs.Ytjkkkmgeolfhfaa.QCrcLinear Go.Proofs.YtjkkkmgeolfhfaaW.PrintWords Go.Proofs.YtjkkkmgeolfhfaaW.PrintLast Go.Proofs.YtjkkkmgeolfhfaaW.PrintMore
/-! ### Sums -/
theorem bytes_of {l : List Int} (h : ∀ x ∈ l, (Lit.int .u8 x).wf = true) : CrcMath.Bytes l := fun c hc => Go.bounds_u8 (h c hc)
theorem more_eq (a : Int) (l : List Int) (h : CrcMath.Bytes l) : crc_More.f a l = some ((CrcMath.more (BitVec.ofInt 32 a) l).toNat : Int) := by
  unfold crc_More.f Own.moreF
  exact if_pos h
theorem sum_eq (l : List Int) (h : CrcMath.Bytes l) : crc_Sum.f l = some ((CrcMath.more 0#32 l).toNat : Int) := by
  unfold crc_Sum.f
  rw [more_eq 0 l h]
  rfl
theorem awake_eq : ferrymanlaw02_awake.f = some true := rfl
theorem toNat_inj (x y : BitVec 32) : ((x.toNat : Int) = (y.toNat : Int)) ↔ x = y := by
  constructor
  · intro h; apply BitVec.eq_of_toNat_eq; omega
  · intro h; rw [h]
theorem ofInt_toNat (x : BitVec 32) : BitVec.ofInt 32 (x.toNat : Int) = x := Own.ofInt_toNat x
theorem toNat_ofInt {a : Int} (h : (Lit.int .u32 a).wf = true) : ((BitVec.ofInt 32 a).toNat : Int) = a := by
  have := Go.bounds_u32 h
  rw [BitVec.toNat_ofInt]; omega
theorem ofInt_inj {a b : Int} (ha : (Lit.int .u32 a).wf = true) (hb : (Lit.int .u32 b).wf = true) (h : BitVec.ofInt 32 a = BitVec.ofInt 32 b) : a = b := by
  rw [← toNat_ofInt ha, ← toNat_ofInt hb, h]
theorem bytes_app {a b : List Int} (ha : CrcMath.Bytes a) (hb : CrcMath.Bytes b) : CrcMath.Bytes (a ++ b) := fun c hc => by
  rcases List.mem_append.1 hc with h | h
  · exact ha c h
  · exact hb c h
theorem bytes_one {c : Int} (h : CrcMath.Byte c) : CrcMath.Bytes [c] := fun d hd => by simp only [List.mem_singleton] at hd; rw [hd]; exact h
theorem bx_eq (c d : Int) : Go.bits .xor .u8 c d = CrcMath.bx c d := by
  have e : Go.bits .xor .u8 c d = IntKind.u8.wrap ((BitVec.ofInt 8 c ^^^ BitVec.ofInt 8 d).toNat : Int) := rfl
  have := (BitVec.ofInt 8 c ^^^ BitVec.ofInt 8 d).isLt
  rw [e, Go.IntKind.wrap_u8]; unfold CrcMath.bx; omega
theorem bytes_take {l : List Int} (h : CrcMath.Bytes l) (n : Nat) : CrcMath.Bytes (l.take n) := fun c hc => h c (List.mem_of_mem_take hc)
theorem bytes_zero (n : Nat) : CrcMath.Bytes (List.replicate n 0) := fun c hc => by rw [List.eq_of_mem_replicate hc]; exact ⟨by decide, by decide⟩
theorem bytes_zip (a b : List Int) : CrcMath.Bytes (List.zipWith CrcMath.bx a b) := fun c hc => by
  obtain ⟨i, hi, rfl⟩ := List.mem_iff_getElem.1 hc
  rw [List.getElem_zipWith]
  exact CrcMath.bx_byte _ _
/-- What stands in the new bytes behind i rounds. -/
def mixed (a b : List Int) (n i : Nat) : List Int := List.zipWith CrcMath.bx (a.take i) (b.take i) ++ List.replicate (n - i) 0
theorem mixed_step (a b : List Int) (n i : Nat) (ha : i < a.length) (hb : i < b.length) (hn : i < n) : (mixed a b n i).set i (CrcMath.bx (rd a (i : Int)) (rd b (i : Int))) = mixed a b n (i + 1) := by
  unfold mixed
  have hl : (List.zipWith CrcMath.bx (a.take i) (b.take i)).length = i := by simp; omega
  rw [List.set_append_right _ _ (by omega), hl, Nat.sub_self, show n - i = (n - (i + 1)) + 1 by omega, List.replicate_succ, List.set_cons_zero, List.take_succ_eq_append_getElem ha, List.take_succ_eq_append_getElem hb, List.zipWith_append (by simp; omega), List.append_assoc]
  congr 1
  simp only [List.zipWith_cons_cons, List.zipWith_nil_left, List.singleton_append]
  congr 2
  · unfold rd; rw [Int.toNat_natCast, List.getD_eq_getElem?_getD, List.getElem?_eq_getElem ha]; rfl
  · unfold rd; rw [Int.toNat_natCast, List.getD_eq_getElem?_getD, List.getElem?_eq_getElem hb]; rfl
theorem mixed_length (a b : List Int) (n i : Nat) (ha : i ≤ a.length) (hb : i ≤ b.length) (hn : i ≤ n) : (mixed a b n i).length = n := by
  unfold mixed; simp; omega
theorem linear_l0 (a b : List Int) (ha : CrcMath.Bytes a) (hb : CrcMath.Bytes b) (n : Nat) (hna : n ≤ a.length) (hnb : n ≤ b.length) (hs : n ≤ 1000) : ∀ (d i k : Nat), i + d = n → d + 1 ≤ k → ferrymanlaw02_CrcLinear.l0 k a b true (n : Int) (mixed a b n i) (i : Int) = some true := by
  intro d
  induction d with
  | zero =>
    intro i k hi hk
    obtain ⟨k, rfl⟩ : ∃ m, k = m + 1 := ⟨k - 1, by omega⟩
    obtain rfl : i = n := by omega
    have e : mixed a b i i = List.zipWith CrcMath.bx (a.take i) (b.take i) := by unfold mixed; simp
    simp only [ferrymanlaw02_CrcLinear.l0, Int.toNat_natCast]
    rw [if_neg (by omega), if_pos trivial, e, sum_eq _ (bytes_zip _ _)]
    simp only [Option.bind_some]
    rw [if_pos (by omega), if_pos (by omega), sum_eq _ (bytes_take ha i)]
    simp only [Option.bind_some]
    rw [if_pos (by omega), sum_eq _ (bytes_take hb i)]
    simp only [Option.bind_some]
    rw [if_pos (by omega), sum_eq _ (bytes_zero i)]
    simp only [Option.bind_some]
    rw [Own.bits_u32, Own.bits_u32, CrcMath.more_linear _ _ (bytes_take ha i) (bytes_take hb i) (by simp; omega), show (a.take i).length = i by simp; omega]
    simp
  | succ d ih =>
    intro i k hi hk
    obtain ⟨k, rfl⟩ : ∃ m, k = m + 1 := ⟨k - 1, by omega⟩
    have hw : wrap64 ((i : Int) + 1) = ((i + 1 : Nat) : Int) := by unfold wrap64; omega
    simp only [ferrymanlaw02_CrcLinear.l0, Int.toNat_natCast]
    rw [mixed_length a b n i (by omega) (by omega) (by omega), if_pos (by omega), if_pos (by omega), if_pos (by omega), if_pos (by omega), if_pos (by omega), bx_eq, mixed_step a b n i (by omega) (by omega) (by omega), hw]
    exact ih (i + 1) k (by omega) (by omega)
theorem CrcLinear : ferrymanlaw02_CrcLinear.Pure := by
  intro a b _ hsa ha _ hsb hb
  have ha := bytes_of ha
  have hb := bytes_of hb
  refine ⟨2000, ?_⟩
  unfold ferrymanlaw02_CrcLinear.f
  rw [awake_eq]
  simp only [Option.bind_some]
  by_cases h : (a.length : Int) > 1000
  · rw [if_pos h]; simp only [ferrymanlaw02_CrcLinear.j0]; rfl
  · rw [if_neg h]
    by_cases h2 : (b.length : Int) > 1000
    · rw [show decide ((b.length : Int) > 1000) = true from decide_eq_true h2]; simp only [ferrymanlaw02_CrcLinear.j0]; rfl
    · rw [show decide ((b.length : Int) > 1000) = false from decide_eq_false h2]
      simp only [ferrymanlaw02_CrcLinear.j0]
      rw [if_neg (by simp)]
      have key : ∀ n : Nat, n ≤ a.length → n ≤ b.length → n ≤ 1000 → ferrymanlaw02_CrcLinear.j1 1999 a b true (n : Int) = some true := by
        intro n h3 h4 h5
        simp only [ferrymanlaw02_CrcLinear.j1, Int.toNat_natCast]
        rw [if_pos (by omega), if_pos (by omega)]
        have e : List.replicate n (0 : Int) = mixed a b n 0 := by unfold mixed; simp
        rw [e]
        exact linear_l0 a b ha hb n h3 h4 h5 n 0 1998 (by omega) (by omega)
      by_cases h3 : (b.length : Int) < (a.length : Int)
      · rw [if_pos h3]; exact key b.length (by omega) (by omega) (by omega)
      · rw [if_neg h3]; exact key a.length (by omega) (by omega) (by omega)
end Go.Proofs.Ytjkkkmgeolfhfaa.Pure
namespace Go.Proofs.Ytjkkkmgeolfhfaa.PrintWords
/-- The printed row asks for this fact by this name. -/
abbrev sized_ints := @Go.Proofs.YtjkkkmgeolfhfaaW.PrintWords.sized_ints
end Go.Proofs.Ytjkkkmgeolfhfaa.PrintWords
