/- What this text proves: the sum of bytes is that of the first ones, gone on with those behind; conditions: none beyond the statement's own. -/
import Derived.Test.YtjkkkmgeolfhfaaQCrcJoinsx1
import Derived.Test.YtjkkkmgeolfhfaaCrcMath
import Derived.OpenShut
import Derived.Test.YtjkkkmgeolfhfaaWSized
namespace Go.Proofs.Ytjkkkmgeolfhfaa.Pure
open Go.RowKit Go.Proofs.Ytjkkkmgeolfhfaa.QCrcJoins Go.Proofs.YtjkkkmgeolfhfaaW.PrintWords Go.Proofs.YtjkkkmgeolfhfaaW.PrintLast Go.Proofs.YtjkkkmgeolfhfaaW.PrintMore
/-! ### Sums -/
theorem bytes_of {l : List Int} (h : ∀ x ∈ l, (Lit.int .u8 x).wf = true) : CrcMath.Bytes l := fun c hc => Go.bounds_u8 (h c hc)
theorem more_eq (a : Int) (l : List Int) (h : CrcMath.Bytes l) : crc_More.f a l = some ((CrcMath.more (BitVec.ofInt 32 a) l).toNat : Int) := by
  unfold crc_More.f Own.moreF
  exact if_pos h
theorem sum_eq (l : List Int) (h : CrcMath.Bytes l) : crc_Sum.f l = some ((CrcMath.more 0#32 l).toNat : Int) := by
  unfold crc_Sum.f
  rw [more_eq 0 l h]
  rfl
theorem awake_eq : ferrymanlaw02_awake.f = some true := rfl
theorem toNat_inj (x y : BitVec 32) : ((x.toNat : Int) = (y.toNat : Int)) ↔ x = y := by
  constructor
  · intro h; apply BitVec.eq_of_toNat_eq; omega
  · intro h; rw [h]
theorem ofInt_toNat (x : BitVec 32) : BitVec.ofInt 32 (x.toNat : Int) = x := Own.ofInt_toNat x
theorem toNat_ofInt {a : Int} (h : (Lit.int .u32 a).wf = true) : ((BitVec.ofInt 32 a).toNat : Int) = a := by
  have := Go.bounds_u32 h
  rw [BitVec.toNat_ofInt]; omega
theorem ofInt_inj {a b : Int} (ha : (Lit.int .u32 a).wf = true) (hb : (Lit.int .u32 b).wf = true) (h : BitVec.ofInt 32 a = BitVec.ofInt 32 b) : a = b := by
  rw [← toNat_ofInt ha, ← toNat_ofInt hb, h]
theorem bytes_app {a b : List Int} (ha : CrcMath.Bytes a) (hb : CrcMath.Bytes b) : CrcMath.Bytes (a ++ b) := fun c hc => by
  rcases List.mem_append.1 hc with h | h
  · exact ha c h
  · exact hb c h
theorem bytes_one {c : Int} (h : CrcMath.Byte c) : CrcMath.Bytes [c] := fun d hd => by simp only [List.mem_singleton] at hd; rw [hd]; exact h
theorem CrcJoins : ferrymanlaw02_CrcJoins.Pure := by
  intro a b _ hsa ha _ hsb hb
  have ha := bytes_of ha
  have hb := bytes_of hb
  refine ⟨1, ?_⟩
  unfold ferrymanlaw02_CrcJoins.f
  rw [awake_eq]
  simp only [Option.bind_some]
  by_cases h : (a.length : Int) > 3000
  · rw [if_pos h]; simp only [ferrymanlaw02_CrcJoins.j0]; rfl
  · rw [if_neg h]
    by_cases h2 : (b.length : Int) > 3000
    · rw [show decide ((b.length : Int) > 3000) = true from decide_eq_true h2]; simp only [ferrymanlaw02_CrcJoins.j0]; rfl
    · rw [show decide ((b.length : Int) > 3000) = false from decide_eq_false h2]
      simp only [ferrymanlaw02_CrcJoins.j0, List.nil_append, List.length_nil, Nat.zero_add]
      rw [if_neg (by simp), if_pos trivial, sum_eq a ha]
      simp only [Option.bind_some]
      rw [more_eq _ b hb]
      simp only [Option.bind_some]
      rw [if_pos (by omega), if_pos (by omega), sum_eq (a ++ b) (bytes_app ha hb), ofInt_toNat, CrcMath.more_append]
      simp
end Go.Proofs.Ytjkkkmgeolfhfaa.Pure
namespace Go.Proofs.Ytjkkkmgeolfhfaa.PrintWords
/-- The printed row asks for this fact by this name. -/
abbrev sized_ints := @Go.Proofs.YtjkkkmgeolfhfaaW.PrintWords.sized_ints
end Go.Proofs.Ytjkkkmgeolfhfaa.PrintWords
