/- What this text proves: the sum of any bytes, and what any sum goes on to, is what the document says; so is each entry of the table; conditions: none beyond the statement's own. -/
import Derived.Test.YtjkkkmgeolfhfaaQCrcSumsx1
import Derived.Test.YtjkkkmgeolfhfaaCrcMath
import Derived.OpenShut
import Derived.Test.YtjkkkmgeolfhfaaWSized
namespace Go.Proofs.Ytjkkkmgeolfhfaa.Pure
open Go.RowKit Go.Proofs.Ytjkkkmgeolfhfaa.QCrcSums Go.Proofs.YtjkkkmgeolfhfaaW.PrintWords Go.Proofs.YtjkkkmgeolfhfaaW.PrintLast Go.Proofs.YtjkkkmgeolfhfaaW.PrintMore
theorem bytes_of {l : List Int} (h : ∀ x ∈ l, (Lit.int .u8 x).wf = true) : CrcMath.Bytes l := fun c hc => Go.bounds_u8 (h c hc)
theorem low_bit (s : BitVec 32) : (Int.tmod (s.toNat : Int) 2 = 1) ↔ s.getLsbD 0 = true := by
  rw [Int.tmod_eq_emod_of_nonneg (by omega), BitVec.getLsbD, Nat.testBit_zero]
  simp only [decide_eq_true_eq]
  omega
theorem half_eq (s : BitVec 32) : (Int.tdiv (s.toNat : Int) (2 : Int)) % (4294967296 : Int) = ((s >>> 1).toNat : Int) := by
  have := s.isLt
  rw [Int.tdiv_eq_ediv_of_nonneg (by omega), Own.half]
  have := (s >>> 1).isLt
  omega
theorem entry_l0 : ∀ (d i k : Nat) (s : BitVec 32), i + d = 8 → d + 1 ≤ k → ferrymanref02_Entry.l0 k (s.toNat : Int) (i : Int) = some ((CrcMath.zn d s).toNat : Int) := by
  intro d
  induction d with
  | zero =>
    intro i k s hi hk
    obtain ⟨k, rfl⟩ : ∃ m, k = m + 1 := ⟨k - 1, by omega⟩
    rw [ferrymanref02_Entry.l0, if_neg (by omega)]
    rfl
  | succ d ih =>
    intro i k s hi hk
    obtain ⟨k, rfl⟩ : ∃ m, k = m + 1 := ⟨k - 1, by omega⟩
    have hw : wrap64 ((i : Int) + 1) = ((i + 1 : Nat) : Int) := by unfold wrap64; omega
    rw [ferrymanref02_Entry.l0, half_eq, hw, if_pos (by omega)]
    clear hw
    have hz : CrcMath.zn (d + 1) s = CrcMath.zn d (CrcMath.z s) := rfl
    by_cases hb : s.getLsbD 0 = true
    · rw [if_pos ((low_bit s).2 hb)]
      have e : Go.bits .xor .u32 ((s >>> 1).toNat : Int) 2197175160 = ((CrcMath.z s).toNat : Int) := by
        have := Own.bits_u32 (s >>> 1) CrcMath.P
        rw [show (CrcMath.P.toNat : Int) = 2197175160 by decide] at this
        rw [this, CrcMath.z, hb]
        rfl
      rw [e, hz]
      exact ih (i + 1) k _ (by omega) (by omega)
    · rw [if_neg (fun e => hb ((low_bit s).1 e))]
      have e : s >>> 1 = CrcMath.z s := by
        rw [CrcMath.z, if_neg hb, BitVec.xor_zero]
      rw [e, hz]
      exact ih (i + 1) k _ (by omega) (by omega)
theorem entry_eq (c k : Nat) (hk : 9 ≤ k) : ferrymanref02_Entry.f k (c : Int) = some (Own.ent c) := by
  unfold ferrymanref02_Entry.f Own.ent
  have := entry_l0 8 0 k (BitVec.ofNat 32 c) (by omega) (by omega)
  rw [show (c : Int) % (4294967296 : Int) = ((BitVec.ofNat 32 c).toNat : Int) by rw [BitVec.toNat_ofNat]; omega]
  exact this
theorem more_l0 (l : List Int) (hl : CrcMath.Bytes l) (hn : l.length ≤ 3000) : ∀ (d i k : Nat) (x : BitVec 32), i + d = l.length → d + 12 ≤ k → ferrymanref02_More.l0 k l (x.toNat : Int) (i : Int) = some ((~~~ (CrcMath.run x (l.drop i))).toNat : Int) := by
  intro d
  induction d with
  | zero =>
    intro i k x hi hk
    obtain ⟨k, rfl⟩ : ∃ m, k = m + 1 := ⟨k - 1, by omega⟩
    rw [ferrymanref02_More.l0, if_neg (by omega), Own.not_eq, Own.ofInt_toNat, List.drop_eq_nil_of_le (by omega)]
    rfl
  | succ d ih =>
    intro i k x hi hk
    obtain ⟨k, rfl⟩ : ∃ m, k = m + 1 := ⟨k - 1, by omega⟩
    have hlt : i < l.length := by omega
    have c1 : (i : Int) < (l.length : Int) := by omega
    have c2 : 0 ≤ (i : Int) := by omega
    have c3 : 9 ≤ k := by omega
    have hrd : rd l (i : Int) = l[i] := by unfold rd; rw [Int.toNat_natCast, List.getD_eq_getElem?_getD, List.getElem?_eq_getElem hlt]; rfl
    have hb : 0 ≤ l[i] ∧ l[i] ≤ 255 := hl _ (List.getElem_mem hlt)
    have hq : (Int.tdiv (x.toNat : Int) (256 : Int)) % (4294967296 : Int) = (x.toNat : Int) / (256 : Int) := by
      rw [Int.tdiv_eq_ediv_of_nonneg (by omega)]
      have := x.isLt
      omega
    have hw : wrap64 ((i : Int) + 1) = ((i + 1 : Nat) : Int) := by unfold wrap64; omega
    rw [ferrymanref02_More.l0, hrd, Own.idx_eq, hq, hw, if_pos c1, if_pos c2, entry_eq _ k c3, Option.bind_some, Own.step_eq x _ hb.1 hb.2]
    clear hq hw
    rw [ih (i + 1) k _ (by omega) (by omega), List.drop_eq_getElem_cons hlt]
    rfl
theorem CrcSums : ferrymanlaw02_CrcSums.Pure := by
  intro a l c ha _ _ hl hc hn
  have hl := bytes_of hl
  have hc := Go.bounds_u8 hc
  have hmore : ∀ x : Int, crc_More.f x l = some ((CrcMath.more (BitVec.ofInt 32 x) l).toNat : Int) := fun x => by
    unfold crc_More.f Own.moreF
    exact if_pos hl
  have href : ∀ x : Int, ferrymanref02_More.f 4000 x l = some ((CrcMath.more (BitVec.ofInt 32 x) l).toNat : Int) := fun x => by
    unfold ferrymanref02_More.f
    rw [Own.not_eq]
    have := more_l0 l hl hn l.length 0 4000 (~~~ (BitVec.ofInt 32 x)) (by omega) (by omega)
    rw [show ((0 : Nat) : Int) = 0 from rfl] at this
    rw [this]
    rfl
  refine ⟨4000, ((CrcMath.more (BitVec.ofInt 32 0) l).toNat : Int), ((CrcMath.more (BitVec.ofInt 32 a) l).toNat : Int), ?_, ?_, hmore a, href a, ?_⟩
  · unfold crc_Sum.f; rw [hmore 0]; rfl
  · unfold ferrymanref02_Sum.f; rw [href 0]; rfl
  · obtain ⟨c, rfl⟩ := Int.eq_ofNat_of_zero_le hc.1
    exact entry_eq c 4000 (by omega)
end Go.Proofs.Ytjkkkmgeolfhfaa.Pure
namespace Go.Proofs.Ytjkkkmgeolfhfaa.PrintWords
/-- The printed row asks for this fact by this name. -/
abbrev sized_ints := @Go.Proofs.YtjkkkmgeolfhfaaW.PrintWords.sized_ints
end Go.Proofs.Ytjkkkmgeolfhfaa.PrintWords
