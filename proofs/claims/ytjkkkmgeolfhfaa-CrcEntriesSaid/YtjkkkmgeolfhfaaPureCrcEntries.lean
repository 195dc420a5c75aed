/- What this text proves: the entries of two bytes' exclusive or are the exclusive or of theirs; that of nought is nought; no two are one; conditions: none beyond the statement's own. -/
import Derived.Test.YtjkkkmgeolfhfaaQCrcEntriesx1
import Derived.Test.YtjkkkmgeolfhfaaCrcMath
import Derived.OpenShut
import Derived.Test.YtjkkkmgeolfhfaaWSized
namespace Go.Proofs.Ytjkkkmgeolfhfaa.Pure
open Go.RowKit Go.Proofs.Ytjkkkmgeolfhfaa.QCrcEntries Go.Proofs.YtjkkkmgeolfhfaaW.PrintWords Go.Proofs.YtjkkkmgeolfhfaaW.PrintLast Go.Proofs.YtjkkkmgeolfhfaaW.PrintMore
theorem ofNat_inj8 {a b : Nat} (ha : a < 256) (hb : b < 256) (h : BitVec.ofNat 32 a = BitVec.ofNat 32 b) : a = b := by
  have := congrArg BitVec.toNat h
  rw [BitVec.toNat_ofNat, BitVec.toNat_ofNat] at this
  omega
theorem CrcEntries : ferrymanlaw02_CrcEntries.Pure := by
  intro a b ha hb
  have ha := Go.bounds_u8 ha
  have hb := Go.bounds_u8 hb
  obtain ⟨a, rfl⟩ := Int.eq_ofNat_of_zero_le ha.1
  obtain ⟨b, rfl⟩ := Int.eq_ofNat_of_zero_le hb.1
  refine ⟨?_, by decide +kernel, ?_⟩
  · have e : Go.bits .xor .u8 (a : Int) (b : Int) = ((BitVec.ofInt 8 (a : Int) ^^^ BitVec.ofInt 8 (b : Int)).toNat : Int) := by
      have e : Go.bits .xor .u8 (a : Int) (b : Int) = IntKind.u8.wrap ((BitVec.ofInt 8 (a : Int) ^^^ BitVec.ofInt 8 (b : Int)).toNat : Int) := rfl
      have := (BitVec.ofInt 8 (a : Int) ^^^ BitVec.ofInt 8 (b : Int)).isLt
      rw [e, Go.IntKind.wrap_u8]; omega
    rw [e]
    simp only [Int.toNat_natCast]
    unfold Own.ent
    rw [Own.bits_u32, ← CrcMath.zn_xor]
    congr 3
    apply BitVec.eq_of_toNat_eq
    rw [BitVec.toNat_ofNat, BitVec.toNat_xor, BitVec.toNat_xor, BitVec.toNat_ofNat, BitVec.toNat_ofNat, BitVec.toNat_ofInt, BitVec.toNat_ofInt]
    have e1 : ((a : Int) % ((2 ^ 8 : Nat) : Int)).toNat = a := by omega
    have e2 : ((b : Int) % ((2 ^ 8 : Nat) : Int)).toNat = b := by omega
    rw [e1, e2, Nat.mod_eq_of_lt (show a < 2 ^ 32 by omega), Nat.mod_eq_of_lt (show b < 2 ^ 32 by omega)]
    exact Nat.mod_eq_of_lt (Nat.xor_lt_two_pow (by omega) (by omega))
  · intro h e
    simp only [Int.toNat_natCast] at e
    unfold Own.ent at e
    have h2 : CrcMath.zn 8 (BitVec.ofNat 32 a) = CrcMath.zn 8 (BitVec.ofNat 32 b) := by apply BitVec.eq_of_toNat_eq; omega
    have := ofNat_inj8 (by omega) (by omega) (CrcMath.zn_inj 8 h2)
    omega
end Go.Proofs.Ytjkkkmgeolfhfaa.Pure
namespace Go.Proofs.Ytjkkkmgeolfhfaa.PrintWords
/-- The printed row asks for this fact by this name. -/
abbrev sized_ints := @Go.Proofs.YtjkkkmgeolfhfaaW.PrintWords.sized_ints
end Go.Proofs.Ytjkkkmgeolfhfaa.PrintWords
