/- What this text proves: what frames are as bytes, and that they are read back; conditions: data of at most 1048576 bytes. what records are in each version's block, and that they are read back as their upgrades; conditions: records that fit. what a segment is as bytes, and that it is read back as its upgrade; conditions: at most 100 records, one behind the other. -/
import Derived.Test.YtgljebaiakhbfaaGreatUpPlain0
import Derived.Test.YtgljebaiakhbfaaGreatUpDecode
namespace Go.Proofs.YtgljebaiakhbfaaGreat.Pure
open Go.RowKit Go.Proofs.YtgljebaiakhbfaaGreat.QTopUpgrades Go.Proofs.YtgljebaiakhbfaaGreatW.PrintWords Go.Proofs.YtgljebaiakhbfaaGreatW.PrintLast Go.Proofs.YtgljebaiakhbfaaGreatW.PrintMore NumPlain CodecPlain
set_option linter.unusedVariables false
set_option linter.unusedSimpArgs false
abbrev Rec := S62
/-! ### fit -/
theorem fit_l0 (l : List Rec) (hl : l.length ≤ 1000000) (first : Int) (h0 : 0 ≤ first) (h1 : first < 4611686018427387904) : ∀ (n i k : Nat), i + n = l.length → n + 1 ≤ k → segment_fit.l0 k l first l (l.length : Int) (i : Int) = some (ordB (first + i) (l.drop i) && decide ((l.length : Int) ≤ 4096)) := by
  intro n
  induction n with
  | zero =>
    intro i k h hk
    obtain ⟨k, rfl⟩ : ∃ j, k = j + 1 := ⟨k - 1, by omega⟩
    simp only [segment_fit.l0]
    rw [if_neg (by omega), List.drop_eq_nil_of_le (by omega)]
    simp [ordB]
  | succ n ih =>
    intro i k h hk
    obtain ⟨k, rfl⟩ : ∃ j, k = j + 1 := ⟨k - 1, by omega⟩
    have hi : i < l.length := by omega
    simp only [segment_fit.l0]
    rw [if_pos (by omega), if_pos (by omega), if_pos (by omega), rdR_nth l i hi, schema_eq, Option.bind_some, show wrap64 (first + (i : Int)) = first + (i : Int) from by unfold wrap64; omega, show wrap64 ((i : Int) + 1) = ((i + 1 : Nat) : Int) from by unfold wrap64; omega, List.drop_eq_getElem_cons hi]
    by_cases hf : fitsR l[i] = true
    · rw [if_pos hf]
      by_cases he : l[i].f0 = first + (i : Int)
      · rw [if_pos he, ih (i + 1) k (by omega) (by omega)]
        simp only [ordB, hf, he, decide_true, Bool.true_and]
        rw [show first + (i : Int) + 1 = first + ((i + 1 : Nat) : Int) by omega]
      · rw [if_neg he]
        simp [ordB, he]
    · rw [if_neg hf]
      simp [ordB, hf]
theorem fit_eq (l : List Rec) (hl : l.length ≤ 1000000) (first : Int) (h0 : 0 ≤ first) (h1 : first < 4611686018427387904) (k : Nat) (hk : l.length + 1 ≤ k) : segment_fit.f k l first = some (ordB first l && decide ((l.length : Int) ≤ 4096)) := by
  have := fit_l0 l hl first h0 h1 l.length 0 k (by omega) hk
  simpa [segment_fit.f] using this
/-! ### Sums -/
def sumB (h d : List Int) : List Int := fx 4 (CrcMath.more (BitVec.ofInt 32 ((CrcMath.more (BitVec.ofInt 32 0) h).toNat : Int)) d).toNat
theorem fx_length : ∀ (s n : Nat), (fx s n).length = s
  | 0, _ => rfl
  | s + 1, n => by simp [fx, fx_length s]
theorem fx_bytes : ∀ (s n : Nat), Bytes (fx s n)
  | 0, _ => fun c hc => by simp [fx] at hc
  | s + 1, n => fun c hc => by
    rw [fx] at hc
    rcases List.mem_cons.1 hc with rfl | hc
    · omega
    · exact fx_bytes s _ c hc
theorem sumB_length (h d : List Int) : (sumB h d).length = 4 := fx_length _ _
theorem sumB_bytes (h d : List Int) : Bytes (sumB h d) := fx_bytes _ _
theorem sum_eq (h d : List Int) (hh : Bytes h) (hd : Bytes d) (k : Nat) (hk : 9 ≤ k) : frame_sum.f k h d = some (sumB h d) := by
  unfold frame_sum.f crc_Sum.f crc_More.f Own.moreF
  rw [if_pos (show ∀ c ∈ h, 0 ≤ c ∧ c ≤ 255 from hh), Option.bind_some, Option.bind_some, if_pos (show ∀ c ∈ d, 0 ≤ c ∧ c ≤ 255 from hd), Option.bind_some, fixed32_eq _ (by omega) (by have := (CrcMath.more (BitVec.ofInt 32 ((CrcMath.more (BitVec.ofInt 32 0) h).toNat : Int)) d).isLt; omega) k hk, Option.bind_some, Int.toNat_natCast]
  rfl
/-! ### Concat -/
theorem rdL_nth (l : List (List Int)) (i : Nat) (h : i < l.length) : rd_L2 l (i : Int) = l[i] := by unfold rd_L2; rw [Int.toNat_natCast, List.getD_eq_getElem?_getD, List.getElem?_eq_getElem h]; rfl
theorem concat_l1 (ls : List (List Int)) (hl : ls.length ≤ 1000000) : ∀ (n i k : Nat) (x : List Int), i + n = ls.length → n + 1 ≤ k → x.length + (ls.drop i).flatten.length ≤ 1000000000000 → slices_Concat_byte_byte.l1 k x ls (ls.length : Int) (i : Int) = some (x ++ (ls.drop i).flatten) := by
  intro n
  induction n with
  | zero =>
    intro i k x h hk _
    obtain ⟨k, rfl⟩ : ∃ j, k = j + 1 := ⟨k - 1, by omega⟩
    simp only [slices_Concat_byte_byte.l1]
    rw [if_neg (by omega), List.drop_eq_nil_of_le (by omega)]
    simp
  | succ n ih =>
    intro i k x h hk hx
    obtain ⟨k, rfl⟩ : ∃ j, k = j + 1 := ⟨k - 1, by omega⟩
    have hi : i < ls.length := by omega
    rw [List.drop_eq_getElem_cons hi, List.flatten_cons, List.length_append] at hx
    simp only [slices_Concat_byte_byte.l1]
    rw [if_pos (by omega), if_pos (by omega), if_pos (by omega), rdL_nth ls i hi, if_pos (by omega), show wrap64 ((i : Int) + 1) = ((i + 1 : Nat) : Int) from by unfold wrap64; omega, ih (i + 1) k _ (by omega) (by omega) (by rw [List.length_append]; omega), List.drop_eq_getElem_cons hi, List.flatten_cons, List.append_assoc]
theorem concat_l0 (ls : List (List Int)) (hl : ls.length ≤ 1000000) (ht : ls.flatten.length ≤ 1000000000000) : ∀ (n i k : Nat) (x : Nat), i + n = ls.length → n + ls.length + 2 ≤ k → x + (ls.drop i).flatten.length ≤ 1000000000000 → slices_Concat_byte_byte.l0 k ls (x : Int) ls (ls.length : Int) (i : Int) = some ls.flatten := by
  intro n
  induction n with
  | zero =>
    intro i k x h hk hx
    obtain ⟨k, rfl⟩ : ∃ j, k = j + 1 := ⟨k - 1, by omega⟩
    simp only [slices_Concat_byte_byte.l0]
    rw [if_neg (by omega)]
    unfold slices_Grow_byte_byte.f
    rw [if_pos ⟨rfl, by omega, by omega⟩, Option.bind_some]
    have := concat_l1 ls hl ls.length 0 k [] (by omega) (by omega) (by simpa using ht)
    simpa using this
  | succ n ih =>
    intro i k x h hk hx
    obtain ⟨k, rfl⟩ : ∃ j, k = j + 1 := ⟨k - 1, by omega⟩
    have hi : i < ls.length := by omega
    rw [List.drop_eq_getElem_cons hi, List.flatten_cons, List.length_append] at hx
    simp only [slices_Concat_byte_byte.l0]
    rw [if_pos (by omega), if_pos (by omega), if_pos (by omega), rdL_nth ls i hi, show wrap64 ((x : Int) + (ls[i].length : Int)) = ((x + ls[i].length : Nat) : Int) from by unfold wrap64; omega, if_neg (by omega), show wrap64 ((i : Int) + 1) = ((i + 1 : Nat) : Int) from by unfold wrap64; omega]
    exact ih (i + 1) k (x + ls[i].length) (by omega) (by omega) (by omega)
theorem concat_eq (ls : List (List Int)) (hl : ls.length ≤ 1000000) (ht : ls.flatten.length ≤ 1000000000000) (k : Nat) (hk : 2 * ls.length + 2 ≤ k) : slices_Concat_byte_byte.f k ls = some ls.flatten := by
  have := concat_l0 ls hl ht ls.length 0 k 0 (by omega) (by omega) (by simpa using ht)
  simpa [slices_Concat_byte_byte.f] using this
/-! ### Frames -/
def frB (d : List Int) : List Int := pt (d.length : Int) ++ d ++ sumB (pt (d.length : Int)) d
theorem frB_bytes {d : List Int} (hd : Bytes d) : Bytes (frB d) := bytes_join (bytes_join (pt_bytes _) hd) (sumB_bytes _ _)
theorem frB_length (d : List Int) : (frB d).length = (pt (d.length : Int)).length + d.length + 4 := by simp [frB, sumB_length]; omega
theorem frB_le (d : List Int) : (frB d).length ≤ d.length + 13 := by rw [frB_length]; have := pt_len (d.length : Int); omega
theorem frEnc_eq (d : List Int) (hd : Bytes d) (hl : d.length ≤ 1048576) (k : Nat) (hk : 20 ≤ k) : frame_Encode.f k d = some (frB d, 0) := by
  have := pt_len (d.length : Int)
  unfold frame_Encode.f
  rw [if_neg (by omega), put_eq k [] _ (by omega) (by simp), Option.bind_some, List.nil_append, sum_eq _ _ (pt_bytes _) hd k (by omega), Option.bind_some, concat_eq _ (by simp) (by simp [sumB_length]; omega) k (by simp; omega), Option.bind_some]
  simp [frB]
theorem framed_eq (d : List Int) (hd : Bytes d) (hl : d.length ≤ 1048576) (k : Nat) (hk : 20 ≤ k) : segment_framed.f k d = some (frB d) := by
  unfold segment_framed.f
  rw [frEnc_eq d hd hl k hk, Option.bind_some]
theorem gr_end (u : Nat) : (gr u).any (fun n => decide (n < 128)) = true := by
  refine gr_ind (C := fun u => (gr u).any (fun n => decide (n < 128)) = true) ?_ ?_ u
  · intro u h
    rw [gr_small h]
    simp
    omega
  · intro u h ih
    rw [gr_large h, List.any_cons, ih, Bool.or_true]
theorem open_eq (d r : List Int) (hl : d.length ≤ 1048576) : frame_open.f (frB d ++ r) = some false := by
  unfold frame_open.f
  split
  · unfold slices_ContainsFunc_byte_byte.f
    rw [Option.bind_some]
    have h : (frB d ++ r).any (fun n => decide (n < 128)) = true := by
      unfold frB pt
      rw [if_pos (by omega), List.any_append, List.any_append, List.any_append, gr_end]
      simp
    rw [h]
    rfl
  · rfl
theorem eqB_l0 (l : List Int) (hl : l.length ≤ 1000000) : ∀ (n i k : Nat), i + n = l.length → n + 1 ≤ k → slices_Equal_byte_byte.l0 k l l (l.length : Int) (i : Int) = some true := by
  intro n
  induction n with
  | zero =>
    intro i k h hk
    obtain ⟨k, rfl⟩ : ∃ j, k = j + 1 := ⟨k - 1, by omega⟩
    simp only [slices_Equal_byte_byte.l0]
    rw [if_neg (by omega)]
  | succ n ih =>
    intro i k h hk
    obtain ⟨k, rfl⟩ : ∃ j, k = j + 1 := ⟨k - 1, by omega⟩
    simp only [slices_Equal_byte_byte.l0]
    rw [if_pos (by omega), if_pos (by omega), if_pos (by omega), if_pos (by omega), if_pos trivial, show wrap64 ((i : Int) + 1) = ((i + 1 : Nat) : Int) from by unfold wrap64; omega, ih (i + 1) k (by omega) (by omega)]
theorem eqB_eq (l : List Int) (hl : l.length ≤ 1000000) (k : Nat) (hk : l.length + 1 ≤ k) : slices_Equal_byte_byte.f k l l = some true := by
  unfold slices_Equal_byte_byte.f
  rw [if_pos rfl]
  exact eqB_l0 l hl l.length 0 k (by omega) hk
theorem frDec_eq (d r : List Int) (hd : Bytes d) (hr : Bytes r) (hl : d.length ≤ 1048576) (k : Nat) (hk : 40 ≤ k) : frame_Decode.f k (frB d ++ r) = some (d, ((frB d).length : Int), 0) := by
  obtain ⟨p, hp⟩ : ∃ p, p = pt (d.length : Int) := ⟨_, rfl⟩
  obtain ⟨s, hs⟩ : ∃ s, s = sumB p d := ⟨_, rfl⟩
  have hsl : s.length = 4 := by rw [hs]; exact sumB_length _ _
  have hpb : Bytes p := by rw [hp]; exact pt_bytes _
  have hpp : 1 ≤ p.length := by rw [hp]; exact pt_pos (by omega) (by omega)
  have e0 : frB d ++ r = p ++ (d ++ (s ++ r)) := by rw [hs, hp]; simp [frB]
  have hg : gt (frB d ++ r) = ((d.length : Int), (p.length : Int)) := by
    rw [e0, hp]
    exact gt_pt (by omega) (by omega) _
  have hlen : (frB d ++ r).length = p.length + d.length + 4 + r.length := by rw [e0]; simp [hsl]; omega
  unfold frame_Decode.f
  rw [open_eq d r hl, Option.bind_some, get_eq _ (bytes_join (frB_bytes hd) hr) k (by omega), Option.bind_some, hg]
  simp only
  rw [if_pos ⟨trivial, by omega, by omega, by omega, by rw [hlen]; omega⟩]
  simp only [Int.toNat_natCast]
  have t1 : (frB d ++ r).take p.length = p := by rw [e0, List.take_left']; rfl
  have t2 : ((frB d ++ r).take (p.length + d.length)).drop p.length = d := by
    rw [e0, ← List.append_assoc, List.take_left' (by simp), List.drop_left' rfl]
  have t3 : ((frB d ++ r).take (p.length + d.length + 4)).drop (p.length + d.length) = s := by
    rw [e0, ← List.append_assoc, ← List.append_assoc, List.take_left' (by simp [hsl]; omega), List.drop_left' (by simp)]
  rw [t1, t2, t3, sum_eq p d hpb hd k (by omega), ← hs, Option.bind_some, eqB_eq s (by omega) k (by omega), Option.bind_some]
  unfold slices_Clone_byte_byte.f
  rw [if_pos (by omega), Option.bind_some, if_pos rfl]
  have : (frB d).length = p.length + d.length + 4 := by rw [frB_length, ← hp]
  simp only [Option.some.injEq, Prod.mk.injEq, true_and, and_true]
  omega
theorem walk_l0 : ∀ (ds : List (List Int)) (pre : List Int) (acc : List (List Int)) (k : Nat), (∀ d ∈ ds, Bytes d ∧ d.length ≤ 1048576) → (pre ++ (ds.map frB).flatten).length ≤ 1000000000000 → acc.length + ds.length ≤ 1000000 → ds.length + 41 ≤ k →
    frame_walk.l0 k (pre ++ (ds.map frB).flatten) acc (pre.length : Int) = some (acc ++ ds, ((pre ++ (ds.map frB).flatten).length : Int), 0)
  | [], pre, acc, k, _, hp, _, hk => by
    obtain ⟨k, rfl⟩ : ∃ j, k = j + 1 := ⟨k - 1, by omega⟩
    simp only [frame_walk.l0, List.map_nil, List.flatten_nil, List.append_nil]
    rw [if_neg (by omega)]
  | d :: ds, pre, acc, k, hb, hp, ha, hk => by
    obtain ⟨k, rfl⟩ : ∃ j, k = j + 1 := ⟨k - 1, by omega⟩
    obtain ⟨hd, hdl⟩ := hb d List.mem_cons_self
    have hds : ∀ d ∈ ds, Bytes d ∧ d.length ≤ 1048576 := fun x hx => hb x (List.mem_cons_of_mem _ hx)
    have hrb : Bytes ((ds.map frB).flatten) := by
      intro c hc
      obtain ⟨l, hl, hc⟩ := List.mem_flatten.1 hc
      obtain ⟨x, hx, rfl⟩ := List.mem_map.1 hl
      exact frB_bytes (hds x hx).1 c hc
    have hfl := frB_length d
    rw [List.map_cons, List.flatten_cons] at hp ⊢
    rw [List.length_append, List.length_append] at hp
    rw [List.length_cons] at ha hk
    simp only [frame_walk.l0]
    rw [if_pos (by rw [List.length_append, List.length_append]; omega), if_pos (by omega), if_pos (by rw [List.length_append]; omega), Int.toNat_natCast, List.drop_left' rfl, frDec_eq d _ hd hrb hdl k (by omega), Option.bind_some]
    simp only
    rw [if_pos trivial, if_pos (by omega), show wrap64 ((pre.length : Int) + ((frB d).length : Int)) = ((pre ++ frB d).length : Int) from by rw [List.length_append]; unfold wrap64; omega]
    have := walk_l0 ds (pre ++ frB d) (acc ++ [d]) k hds (by rw [List.length_append, List.length_append]; omega) (by rw [List.length_append, List.length_singleton]; omega) (by omega)
    rw [List.append_assoc, List.append_assoc] at this
    exact this
theorem all_eq (ds : List (List Int)) (hb : ∀ d ∈ ds, Bytes d ∧ d.length ≤ 1048576) (hl : ((ds.map frB).flatten).length ≤ 1000000000000) (hn : ds.length ≤ 1000000) (k : Nat) (hk : ds.length + 41 ≤ k) : frame_All.f k ((ds.map frB).flatten) = some (ds, 0) := by
  have := walk_l0 ds [] [] k hb (by simpa using hl) (by simpa using hn) hk
  simp only [List.nil_append, List.length_nil] at this
  unfold frame_All.f frame_walk.f
  have e : frame_walk.l0 k (ds.map frB).flatten [] 0 = _ := this
  rw [e, Option.bind_some]
  simp only
  rw [if_pos trivial]
end Go.Proofs.YtgljebaiakhbfaaGreat.Pure
namespace Go.Proofs.YtgljebaiakhbfaaGreat.Pure
open Go.RowKit Go.Proofs.YtgljebaiakhbfaaGreat.QTopUpgrades Go.Proofs.YtgljebaiakhbfaaGreatW.PrintWords Go.Proofs.YtgljebaiakhbfaaGreatW.PrintLast Go.Proofs.YtgljebaiakhbfaaGreatW.PrintMore NumPlain CodecPlain
set_option linter.unusedVariables false
set_option linter.unusedSimpArgs false
/-- A field's value. -/
def valB (x : Int) (r : Rec) : List Int := if x = 1 then pt r.f0 else if x = 2 then pt r.f1 else if x = 3 then pt r.f2 else opB r.f3.f0 r.f3.f1 r.f3.f2
def fieldsB (r : Rec) : List Int → List Int
  | [] => []
  | x :: fs => pt x ++ valB x r ++ fieldsB r fs
/-- A record in an elder version. -/
def schB (v : Int) (r : Rec) : List Int := pt v ++ fieldsB r (fieldsE v)
/-- What an elder version tells of a record. -/
def upg (v : Int) (r : Rec) : Rec := ⟨r.f0, r.f1, if v = 1 then 0 else r.f2, r.f3, if v = 3 then r.f4 else 0⟩
structure FitR (r : Rec) : Prop where
  a0 : 0 ≤ r.f0
  a1 : r.f0 < 4611686018427387904
  b0 : 0 ≤ r.f1
  b1 : r.f1 ≤ 64
  c0 : 0 ≤ r.f2
  c1 : r.f2 < 4611686018427387904
  op : fitsB r.f3.f0 r.f3.f1 r.f3.f2 = true
  d0 : -1125899906842624 ≤ r.f4
  d1 : r.f4 ≤ 1125899906842624
theorem fitR_iff (r : Rec) : fitsR r = true ↔ FitR r := by
  unfold fitsR
  simp only [Bool.and_eq_true, decide_eq_true_eq]
  exact ⟨fun h => ⟨h.1.1.1.1.1.1.1.1, h.1.1.1.1.1.1.1.2, h.1.1.1.1.1.1.2, h.1.1.1.1.1.2, h.1.1.1.1.2, h.1.1.1.2, h.1.1.2, h.1.2, h.2⟩, fun h => ⟨⟨⟨⟨⟨⟨⟨⟨h.a0, h.a1⟩, h.b0⟩, h.b1⟩, h.c0⟩, h.c1⟩, h.op⟩, h.d0⟩, h.d1⟩⟩
theorem valB_bytes (x : Int) (r : Rec) : Bytes (valB x r) := by
  unfold valB
  split
  · exact pt_bytes _
  · split
    · exact pt_bytes _
    · split
      · exact pt_bytes _
      · exact opB_bytes _ _ _
theorem fieldsB_bytes (r : Rec) : ∀ fs, Bytes (fieldsB r fs)
  | [] => fun c hc => by cases hc
  | x :: fs => bytes_join (bytes_join (pt_bytes _) (valB_bytes _ _)) (fieldsB_bytes r fs)
theorem schB_bytes (v : Int) (r : Rec) : Bytes (schB v r) := bytes_join (pt_bytes _) (fieldsB_bytes _ _)
theorem valB_len {r : Rec} (h : FitR r) (x : Int) : 1 ≤ (valB x r).length ∧ (valB x r).length ≤ 29 := by
  have hi := fits_i64 h.op
  unfold valB
  split
  · exact ⟨pt_pos h.a0 h.a1, by have := pt_len r.f0; omega⟩
  · split
    · exact ⟨pt_pos h.b0 (by have := h.b1; omega), by have := pt_len r.f1; omega⟩
    · split
      · exact ⟨pt_pos h.c0 h.c1, by have := pt_len r.f2; omega⟩
      · exact ⟨opB_pos h.op, opB_len hi.1 hi.2.1⟩
theorem fieldsB_len {r : Rec} (h : FitR r) : ∀ fs, (fieldsB r fs).length ≤ 38 * fs.length
  | [] => by simp [fieldsB]
  | x :: fs => by
    have := fieldsB_len h fs; have := (valB_len h x).2; have := pt_len x
    simp only [fieldsB, List.length_append, List.length_cons]
    omega
theorem fieldsE_len (v : Int) : (fieldsE v).length ≤ 4 := by unfold fieldsE; split <;> decide
theorem fieldsE_in (v : Int) : ∀ x ∈ fieldsE v, x = 1 ∨ x = 2 ∨ x = 3 ∨ x = 4 := by unfold fieldsE; split <;> decide
theorem schB_len {v : Int} {r : Rec} (h : FitR r) : (schB v r).length ≤ 161 := by
  have := fieldsB_len h (fieldsE v); have := fieldsE_len v; have := pt_len v
  simp only [schB, List.length_append]
  omega
/-! ### Encode -/
theorem put_one {r : Rec} (h : FitR r) {x : Int} (hx : x = 1 ∨ x = 2 ∨ x = 3 ∨ x = 4) (b : List Int) (hb : b.length ≤ 1000000) (k : Nat) (hk : 12 ≤ k) : schema_put.f k b x r.f0 r.f1 r.f2 r.f3.f0 r.f3.f1 r.f3.f2 r.f4 = some (b ++ (pt x ++ valB x r)) := by
  have hi := fits_i64 h.op
  have hp := pt_len x
  unfold schema_put.f
  rw [put_eq k b x hk (by omega), Option.bind_some]
  rcases hx with rfl | rfl | rfl | rfl
  · rw [if_pos rfl, put_eq k _ _ hk (by rw [List.length_append]; omega), Option.bind_some, List.append_assoc]; rfl
  · rw [if_neg (by decide), if_pos rfl, put_eq k _ _ hk (by rw [List.length_append]; omega), Option.bind_some, List.append_assoc]; rfl
  · rw [if_neg (by decide), if_neg (by decide), if_pos rfl, put_eq k _ _ hk (by rw [List.length_append]; omega), Option.bind_some, List.append_assoc]; rfl
  · rw [if_neg (by decide), if_neg (by decide), if_neg (by decide), if_pos rfl, putOp_eq k _ _ _ _ hi.1 hi.2.1 hk (by rw [List.length_append]; omega), Option.bind_some, if_pos h.op, List.append_assoc]; rfl
theorem putAll_eq {r : Rec} (h : FitR r) (k : Nat) (hk : 12 ≤ k) : ∀ (fs : List Int) (b : List Int), (∀ x ∈ fs, x = 1 ∨ x = 2 ∨ x = 3 ∨ x = 4) → b.length + 38 * fs.length ≤ 1000000 → Go.Proofs.YtgljebaiakhbfaaGreat.QTopUpgrades.putAll k r.f0 r.f1 r.f2 r.f3.f0 r.f3.f1 r.f3.f2 r.f4 fs b = some (b ++ fieldsB r fs)
  | [], b, _, _ => by simp [Go.Proofs.YtgljebaiakhbfaaGreat.QTopUpgrades.putAll, fieldsB]
  | x :: fs, b, hx, hb => by
    have hv := (valB_len h x).2; have hp := pt_len x
    rw [List.length_cons] at hb
    unfold Go.Proofs.YtgljebaiakhbfaaGreat.QTopUpgrades.putAll
    rw [put_one h (hx x List.mem_cons_self) b (by omega) k hk, Option.bind_some, putAll_eq h k hk fs _ (fun y hy => hx y (List.mem_cons_of_mem _ hy)) (by rw [List.length_append, List.length_append]; omega)]
    simp [fieldsB]
theorem sEnc_eq {r : Rec} (h : FitR r) {v : Int} (hv : v = 1 ∨ v = 2) (k : Nat) (hk : 12 ≤ k) : schema_Encode.f k v r.f0 r.f1 r.f2 r.f3.f0 r.f3.f1 r.f3.f2 r.f4 = some (schB v r, 0) := by
  have := pt_len v; have := fieldsE_len v
  unfold schema_Encode.f
  rw [if_pos hv, schema_eq r, Option.bind_some, (fitR_iff r).2 h, if_pos rfl, put_eq k [] v hk (by simp), Option.bind_some, List.nil_append, putAll_eq h k hk _ _ (fieldsE_in v) (by omega), Option.bind_some]
  rfl
/-! ### Decode -/
theorem readF_step (k : Nat) (hk : 31 ≤ k) (x : Int) (h0 : 0 ≤ x) (h1 : x < 4611686018427387904) (fs vb rest : List Int) (s0 s1 s2 s3 s4 s5 s6 t0 t1 t2 t3 t4 t5 t6 : Int) (hb : Bytes (vb ++ rest)) (hv : 1 ≤ vb.length)
    (hget : schema_get.f k s0 s1 s2 s3 s4 s5 s6 x (vb ++ rest) = some ((vb.length : Int), t0, t1, t2, t3, t4, t5, t6)) : readF k (x :: fs) (pt x ++ vb ++ rest) s0 s1 s2 s3 s4 s5 s6 = readF k fs rest t0 t1 t2 t3 t4 t5 t6 := by
  have hp := pt_pos h0 h1
  rw [List.append_assoc]
  conv => lhs; unfold readF
  rw [get_eq _ (bytes_join (pt_bytes _) hb) k hk, Option.bind_some, gt_pt h0 h1]
  simp only
  rw [if_pos ⟨trivial, by omega, by rw [List.length_append]; omega⟩, Int.toNat_natCast, List.drop_left' rfl, hget, Option.bind_some]
  simp only
  rw [if_pos ⟨by omega, by rw [List.length_append]; omega⟩, Int.toNat_natCast, List.drop_left' rfl]
theorem read_eq2 {r : Rec} (h : FitR r) {v : Int} (hv : v = 1 ∨ v = 2) (k : Nat) (hk : 40 ≤ k) : schema_read.f k v (fieldsB r (fieldsE v)) = some ((upg v r).f0, (upg v r).f1, (upg v r).f2, (upg v r).f3.f0, (upg v r).f3.f1, (upg v r).f3.f2, (upg v r).f4) := by
  have g1 : ∀ (rest : List Int) (s0 s1 s2 s3 s4 s5 s6 : Int), Bytes rest → schema_get.f k s0 s1 s2 s3 s4 s5 s6 1 (valB 1 r ++ rest) = some (((valB 1 r).length : Int), r.f0, s1, s2, s3, s4, s5, s6) := by
    intro rest s0 s1 s2 s3 s4 s5 s6 hb
    have e : valB 1 r = pt r.f0 := rfl
    unfold schema_get.f
    rw [if_pos rfl, e, get_eq _ (bytes_join (pt_bytes _) hb) k (by omega), Option.bind_some, gt_pt h.a0 h.a1]
  have g2 : ∀ (rest : List Int) (s0 s1 s2 s3 s4 s5 s6 : Int), Bytes rest → schema_get.f k s0 s1 s2 s3 s4 s5 s6 2 (valB 2 r ++ rest) = some (((valB 2 r).length : Int), s0, r.f1, s2, s3, s4, s5, s6) := by
    intro rest s0 s1 s2 s3 s4 s5 s6 hb
    have e : valB 2 r = pt r.f1 := rfl
    have := h.b1
    unfold schema_get.f
    rw [if_neg (by decide), if_pos rfl, e, get_eq _ (bytes_join (pt_bytes _) hb) k (by omega), Option.bind_some, gt_pt h.b0 (by omega)]
  have g3 : ∀ (rest : List Int) (s0 s1 s2 s3 s4 s5 s6 : Int), Bytes rest → schema_get.f k s0 s1 s2 s3 s4 s5 s6 3 (valB 3 r ++ rest) = some (((valB 3 r).length : Int), s0, s1, r.f2, s3, s4, s5, s6) := by
    intro rest s0 s1 s2 s3 s4 s5 s6 hb
    have e : valB 3 r = pt r.f2 := rfl
    unfold schema_get.f
    rw [if_neg (by decide), if_neg (by decide), if_pos rfl, e, get_eq _ (bytes_join (pt_bytes _) hb) k (by omega), Option.bind_some, gt_pt h.c0 h.c1]
  have g4 : ∀ (rest : List Int) (s0 s1 s2 s3 s4 s5 s6 : Int), Bytes rest → schema_get.f k s0 s1 s2 s3 s4 s5 s6 4 (valB 4 r ++ rest) = some (((valB 4 r).length : Int), s0, s1, s2, r.f3.f0, r.f3.f1, r.f3.f2, s6) := by
    intro rest s0 s1 s2 s3 s4 s5 s6 hb
    have e : valB 4 r = opB r.f3.f0 r.f3.f1 r.f3.f2 := rfl
    unfold schema_get.f
    rw [if_neg (by decide), if_neg (by decide), if_neg (by decide), if_pos rfl, e, getOp_eq _ (bytes_join (opB_bytes _ _ _) hb) k (by omega), Option.bind_some, gOp_opB h.op]
  have hB := fieldsB_bytes r
  have hvb := fun x rest (hr : Bytes rest) => bytes_join (valB_bytes x r) hr
  have hl := fun x => (valB_len h x).1
  have hnil : ∀ s0 s1 s2 s3 s4 s5 s6 : Int, readF k [] [] s0 s1 s2 s3 s4 s5 s6 = some (s0, s1, s2, s3, s4, s5, s6) := fun _ _ _ _ _ _ _ => rfl
  have b0 : Bytes (fieldsB r []) := hB []
  unfold schema_read.f
  rw [if_pos hv]
  rcases hv with rfl | rfl
  · have e : fieldsE 1 = [1, 2, 4] := rfl
    rw [e,
      show fieldsB r [1, 2, 4] = pt 1 ++ valB 1 r ++ fieldsB r [2, 4] from rfl, readF_step k (by omega) 1 (by decide) (by decide) _ _ _ _ _ _ _ _ _ _ _ _ _ _ _ _ _ (hvb 1 _ (hB [2, 4])) (hl 1) (g1 _ _ _ _ _ _ _ _ (hB [2, 4])),
      show fieldsB r [2, 4] = pt 2 ++ valB 2 r ++ fieldsB r [4] from rfl, readF_step k (by omega) 2 (by decide) (by decide) _ _ _ _ _ _ _ _ _ _ _ _ _ _ _ _ _ (hvb 2 _ (hB [4])) (hl 2) (g2 _ _ _ _ _ _ _ _ (hB [4])),
      show fieldsB r [4] = pt 4 ++ valB 4 r ++ fieldsB r [] from rfl, readF_step k (by omega) 4 (by decide) (by decide) _ _ _ _ _ _ _ _ _ _ _ _ _ _ _ _ _ (hvb 4 _ (hB [])) (hl 4) (g4 _ _ _ _ _ _ _ _ (hB [])),
      show fieldsB r [] = [] from rfl, hnil, Option.bind_some]
    simp only
    have hf : FitR (upg 1 r) := ⟨h.a0, h.a1, h.b0, h.b1, by simp [upg], by simp [upg], h.op, by simp [upg], by simp [upg]⟩
    have := schema_eq (upg 1 r)
    rw [(fitR_iff _).2 hf] at this
    simp only [upg] at this ⊢
    rw [if_pos trivial, if_neg (by decide)] at this ⊢
    rw [this, Option.bind_some, if_pos rfl]
  · have e : fieldsE 2 = [1, 2, 3, 4] := rfl
    rw [e,
      show fieldsB r [1, 2, 3, 4] = pt 1 ++ valB 1 r ++ fieldsB r [2, 3, 4] from rfl, readF_step k (by omega) 1 (by decide) (by decide) _ _ _ _ _ _ _ _ _ _ _ _ _ _ _ _ _ (hvb 1 _ (hB [2, 3, 4])) (hl 1) (g1 _ _ _ _ _ _ _ _ (hB [2, 3, 4])),
      show fieldsB r [2, 3, 4] = pt 2 ++ valB 2 r ++ fieldsB r [3, 4] from rfl, readF_step k (by omega) 2 (by decide) (by decide) _ _ _ _ _ _ _ _ _ _ _ _ _ _ _ _ _ (hvb 2 _ (hB [3, 4])) (hl 2) (g2 _ _ _ _ _ _ _ _ (hB [3, 4])),
      show fieldsB r [3, 4] = pt 3 ++ valB 3 r ++ fieldsB r [4] from rfl, readF_step k (by omega) 3 (by decide) (by decide) _ _ _ _ _ _ _ _ _ _ _ _ _ _ _ _ _ (hvb 3 _ (hB [4])) (hl 3) (g3 _ _ _ _ _ _ _ _ (hB [4])),
      show fieldsB r [4] = pt 4 ++ valB 4 r ++ fieldsB r [] from rfl, readF_step k (by omega) 4 (by decide) (by decide) _ _ _ _ _ _ _ _ _ _ _ _ _ _ _ _ _ (hvb 4 _ (hB [])) (hl 4) (g4 _ _ _ _ _ _ _ _ (hB [])),
      show fieldsB r [] = [] from rfl, hnil, Option.bind_some]
    simp only
    have hf : FitR (upg 2 r) := ⟨h.a0, h.a1, h.b0, h.b1, h.c0, h.c1, h.op, by simp [upg], by simp [upg]⟩
    have := schema_eq (upg 2 r)
    rw [(fitR_iff _).2 hf] at this
    simp only [upg] at this ⊢
    rw [if_neg (by decide), if_neg (by decide)] at this ⊢
    rw [this, Option.bind_some, if_pos rfl]
theorem sDec_eq {r : Rec} (h : FitR r) {v : Int} (hv : v = 1 ∨ v = 2) (k : Nat) (hk : 40 ≤ k) : schema_Decode.f k (schB v r) = some ((upg v r).f0, (upg v r).f1, (upg v r).f2, (upg v r).f3.f0, (upg v r).f3.f1, (upg v r).f3.f2, (upg v r).f4, 0) := by
  have hv0 : 0 ≤ v ∧ v < 4611686018427387904 := by omega
  have hp := pt_pos hv0.1 hv0.2
  unfold schema_Decode.f
  rw [get_eq _ (schB_bytes v r) k (by omega), Option.bind_some]
  unfold schB
  rw [gt_pt hv0.1 hv0.2]
  simp only
  rw [if_pos ⟨by omega, by rw [List.length_append]; omega, hv⟩, Int.toNat_natCast, List.drop_left' rfl, read_eq2 h hv k hk, Option.bind_some]
/-! ### elder -/
def eldB (v : Int) : List Rec → List Int
  | [] => []
  | r :: l => pt ((schB v r).length : Int) ++ schB v r ++ eldB v l
theorem eldB_bytes (v : Int) : ∀ l, Bytes (eldB v l)
  | [] => fun c hc => by cases hc
  | r :: l => bytes_join (bytes_join (pt_bytes _) (schB_bytes v r)) (eldB_bytes v l)
theorem eldB_len (v : Int) : ∀ l, (∀ r ∈ l, FitR r) → (eldB v l).length ≤ 170 * l.length
  | [], _ => by simp [eldB]
  | r :: l, h => by
    have := eldB_len v l (fun x hx => h x (List.mem_cons_of_mem _ hx)); have := schB_len (v := v) (h r List.mem_cons_self); have := pt_len ((schB v r).length : Int)
    simp only [eldB, List.length_append, List.length_cons]
    omega
theorem schB_first {v : Int} (hv : v = 1 ∨ v = 2) (r : Rec) (a b : List Int) : rd (a ++ (schB v r ++ b)) (a.length : Int) = v := by
  unfold rd
  rw [Int.toNat_natCast, List.getD_eq_getElem?_getD, List.getElem?_append_right (Nat.le_refl _), Nat.sub_self]
  rcases hv with rfl | rfl
  · have : pt 1 = [1] := by unfold pt; rw [if_pos (by decide), show (1 : Int).toNat = 1 from rfl, gr_small (by decide)]; rfl
    simp [schB, this]
  · have : pt 2 = [2] := by unfold pt; rw [if_pos (by decide), show (2 : Int).toNat = 2 from rfl, gr_small (by decide)]; rfl
    simp [schB, this]
set_option maxHeartbeats 1000000 in
theorem elder_l0 {v : Int} (hv : v = 1 ∨ v = 2) : ∀ (l : List Rec) (acc : List Rec) (k : Nat), (∀ r ∈ l, FitR r) → acc.length + l.length ≤ 1000000 → 2 * l.length + 60 ≤ k → segment_elder.l0 k v (eldB v l) acc = some (acc ++ l.map (upg v), true)
  | [], acc, k, _, _, hk => by
    obtain ⟨k, rfl⟩ : ∃ j, k = j + 1 := ⟨k - 1, by omega⟩
    have e : eldB v [] = [] := rfl
    rw [e]
    simp only [segment_elder.l0]
    rw [if_neg (show ¬ ((([] : List Int).length : Int) > 0) by simp)]
    simp
  | r :: l, acc, k, h, ha, hk => by
    rw [List.length_cons] at ha hk
    obtain ⟨k, rfl⟩ : ∃ j, k = j + 2 := ⟨k - 2, by omega⟩
    have hr := h r List.mem_cons_self
    have hsl := schB_len (v := v) hr
    have hEl := eldB_len v l (fun x hx => h x (List.mem_cons_of_mem _ hx))
    obtain ⟨s, hs⟩ : ∃ s, s = schB v r := ⟨_, rfl⟩
    obtain ⟨p, hp⟩ : ∃ p, p = pt ((schB v r).length : Int) := ⟨_, rfl⟩
    have hsp : 1 ≤ s.length := by
      rw [hs]
      have := pt_pos (n := v) (by omega) (by omega)
      unfold schB
      rw [List.length_append]
      omega
    rw [← hs] at hsl hp
    have hpp : 1 ≤ p.length := by rw [hp]; exact pt_pos (by omega) (by omega)
    have hpl : p.length ≤ 9 := by rw [hp]; exact pt_len _
    have e0 : eldB v (r :: l) = p ++ (s ++ eldB v l) := by rw [hp, hs]; simp [eldB]
    have hlen : (p ++ (s ++ eldB v l)).length = p.length + (s.length + (eldB v l).length) := by simp
    have hg : gt (p ++ (s ++ eldB v l)) = ((s.length : Int), (p.length : Int)) := by rw [hp]; exact gt_pt (by omega) (by omega) _
    have hrd : rd (p ++ (s ++ eldB v l)) (p.length : Int) = v := by rw [hs]; exact schB_first hv r p _
    have hbt : Bytes (p ++ (s ++ eldB v l)) := by rw [← e0]; exact eldB_bytes v _
    have hmod : (v != v % 256) = false := by rcases hv with rfl | rfl <;> decide
    have t1 : ((p ++ (s ++ eldB v l)).take (p.length + s.length)).drop p.length = s := by rw [← List.append_assoc, List.take_left' (by simp), List.drop_left' rfl]
    have t2 : (p ++ (s ++ eldB v l)).drop (p.length + s.length) = eldB v l := by rw [← List.append_assoc, List.drop_left' (by simp)]
    have n0 : ((p ++ (s ++ eldB v l)).length : Int) > 0 := by rw [hlen]; omega
    have n1 : ¬ ((p.length : Int) = 0) := by omega
    have n2 : ¬ ((s.length : Int) = 0) := by omega
    have n3 : ¬ ((s.length : Int) > ((s.length + (eldB v l).length : Nat) : Int)) := by omega
    have n4 : 0 ≤ (p.length : Int) := by omega
    have n5 : (p.length : Int) < ((p ++ (s ++ eldB v l)).length : Int) := by rw [hlen]; omega
    have n6 : (p.length : Int) ≤ ((p.length + s.length : Nat) : Int) := by omega
    have n7 : ((p.length + s.length : Nat) : Int) ≤ ((p ++ (s ++ eldB v l)).length : Int) := by rw [hlen]; omega
    have n8 : acc.length < 2513169434916 := by omega
    have n9 : 0 ≤ ((p.length + s.length : Nat) : Int) := by omega
    have k1 : 31 ≤ k + 1 := by omega
    have hD := sDec_eq hr hv k (by omega)
    rw [← hs] at hD
    have := elder_l0 hv l (acc ++ [upg v r]) k (fun x hx => h x (List.mem_cons_of_mem _ hx)) (by rw [List.length_append, List.length_singleton]; omega) (by omega)
    rw [List.append_assoc] at this
    have w1 : wrap64 (((p ++ (s ++ eldB v l)).length : Int) - (p.length : Int)) = ((s.length + (eldB v l).length : Nat) : Int) := by rw [hlen]; unfold wrap64; omega
    have w2 : wrap64 ((p.length : Int) + (s.length : Int)) = ((p.length + s.length : Nat) : Int) := by clear w1; unfold wrap64; omega
    rw [e0]
    clear hsl hEl hsp hpp hpl e0 hlen
    unfold segment_elder.l0
    rw [if_pos n0, get_eq _ hbt (k + 1) k1, Option.bind_some, hg]
    simp only
    rw [if_neg n1, if_neg n2, w1, if_neg n3, if_pos n4, if_pos n5, hrd, hmod]
    unfold segment_elder.j1
    rw [if_neg (by decide), if_pos n4, w2, if_pos n6, if_pos n7, Int.toNat_natCast, Int.toNat_natCast, t1, t2, hD, Option.bind_some]
    simp only
    rw [if_pos trivial, if_pos n8, if_pos n9]
    exact this
/-! ### The data of a block -/
def dataB (v : Int) (l : List Rec) : List Int := if v = 3 then blkB l else eldB v l
theorem dataB_bytes (v : Int) (l : List Rec) : Bytes (dataB v l) := by
  unfold dataB
  split
  · exact blkB_bytes l
  · exact eldB_bytes v l
theorem data_l0 {v : Int} (hv : v = 1 ∨ v = 2) (l : List Rec) (h : ∀ r ∈ l, FitR r) (hl : l.length ≤ 1000) : ∀ (n i k : Nat) (x : List Int), i + n = l.length → n + 13 ≤ k → x.length + 170 * n ≤ 1000000 → segment_data.l0 k v x l (l.length : Int) (i : Int) = some (x ++ eldB v (l.drop i)) := by
  intro n
  induction n with
  | zero =>
    intro i k x hi hk _
    obtain ⟨k, rfl⟩ : ∃ j, k = j + 1 := ⟨k - 1, by omega⟩
    simp only [segment_data.l0]
    rw [if_neg (by omega), List.drop_eq_nil_of_le (by omega)]
    simp [eldB]
  | succ n ih =>
    intro i k x hi hk hx
    obtain ⟨k, rfl⟩ : ∃ j, k = j + 1 := ⟨k - 1, by omega⟩
    have hlt : i < l.length := by omega
    have hr := h l[i] (List.getElem_mem hlt)
    have hsl := schB_len (v := v) hr
    have hpl := pt_len ((schB v l[i]).length : Int)
    simp only [segment_data.l0]
    rw [if_pos (by omega), if_pos (by omega), if_pos (by omega), rdR_nth l i hlt, sEnc_eq hr hv k (by omega), Option.bind_some]
    simp only
    rw [put_eq k x _ (by omega) (by omega), Option.bind_some, if_pos (by rw [List.length_append]; omega), show wrap64 ((i : Int) + 1) = ((i + 1 : Nat) : Int) from by unfold wrap64; omega, ih (i + 1) k _ (by omega) (by omega) (by rw [List.length_append, List.length_append]; omega), List.drop_eq_getElem_cons hlt]
    simp [eldB]
theorem blkOk_facts2 {l : List Rec} (h : blkOk l = true) : 1 ≤ l.length ∧ l.length ≤ 256 ∧ ∀ x ∈ l, fitsR x = true := by
  obtain ⟨h1, h2, h3, _⟩ := blkOk_facts h
  exact ⟨h1, h2, ordB_fits h3⟩
theorem data_eq {v : Int} (hv : v = 1 ∨ v = 2 ∨ v = 3) (l : List Rec) (hok : blkOk l = true) (k : Nat) (hk : 600 ≤ k) : segment_data.f k v l = some (dataB v l) := by
  have hf := blkOk_facts2 hok
  unfold segment_data.f dataB
  by_cases h3 : v = 3
  · rw [if_pos h3, if_pos h3, blkEnc_eq l (by omega) k (by omega), Option.bind_some, encL, if_pos hok]
  · rw [if_neg h3, if_neg h3]
    have := data_l0 (v := v) (by omega) l (fun r hr => (fitR_iff r).1 (hf.2.2 r hr)) (by omega) l.length 0 k [] (by omega) (by omega) (by simp; omega)
    simpa using this
theorem upg3 (r : Rec) : upg 3 r = r := by
  obtain ⟨a, b, c, d, e⟩ := r
  simp [upg]
theorem block_eq {v : Int} (hv : v = 1 ∨ v = 2 ∨ v = 3) (l : List Rec) (hok : blkOk l = true) (k : Nat) (hk : 1200 ≤ k) : blockF k v (dataB v l) = some (l.map (upg v)) := by
  have hf := blkOk_facts2 hok
  unfold blockF dataB
  by_cases h3 : v = 3
  · subst h3
    rw [if_pos rfl, if_pos rfl, dec_back hok k (by omega), Option.bind_some]
    simp only
    rw [if_pos trivial, List.map_congr_left (g := id) (fun r _ => upg3 r), List.map_id]
  · rw [if_neg h3, if_neg h3]
    unfold segment_elder.f
    rw [elder_l0 (v := v) (by omega) l [] k (fun r hr => (fitR_iff r).1 (hf.2.2 r hr)) (by simp; omega) (by omega), Option.bind_some]
    simp
theorem dataB_len {v : Int} (l : List Rec) (hok : blkOk l = true) : (dataB v l).length ≤ 50000 := by
  have hf := blkOk_facts2 hok
  unfold dataB
  split
  · have := blkB_len hok; omega
  · have := eldB_len v l (fun r hr => (fitR_iff r).1 (hf.2.2 r hr)); omega
theorem ordB_upg (v : Int) (hv : v = 1 ∨ v = 2 ∨ v = 3) : ∀ (l : List Rec) (first : Int), ordB first l = true → ordB first (l.map (upg v)) = true
  | [], _, _ => rfl
  | r :: l, first, h => by
    simp only [ordB, List.map_cons, Bool.and_eq_true, decide_eq_true_eq] at h ⊢
    have hr := (fitR_iff r).1 h.1.1
    refine ⟨⟨(fitR_iff _).2 ⟨hr.a0, hr.a1, hr.b0, hr.b1, ?_, ?_, hr.op, ?_, ?_⟩, h.1.2⟩, ordB_upg v hv l _ h.2⟩
    · unfold upg; simp only; split; decide; exact hr.c0
    · unfold upg; simp only; split; decide; exact hr.c1
    · unfold upg; simp only; split; exact hr.d0; decide
    · unfold upg; simp only; split; exact hr.d1; decide
end Go.Proofs.YtgljebaiakhbfaaGreat.Pure
namespace Go.Proofs.YtgljebaiakhbfaaGreat.Pure
open Go.RowKit Go.Proofs.YtgljebaiakhbfaaGreat.QTopUpgrades Go.Proofs.YtgljebaiakhbfaaGreatW.PrintWords Go.Proofs.YtgljebaiakhbfaaGreatW.PrintLast Go.Proofs.YtgljebaiakhbfaaGreatW.PrintMore NumPlain CodecPlain
set_option linter.unusedVariables false
set_option linter.unusedSimpArgs false
/-! ### Chunks -/
def chunksN : Nat → List Rec → List (List Rec)
  | 0, _ => []
  | n + 1, l => if l.length = 0 then [] else l.take 16 :: chunksN n (l.drop 16)
theorem chunks_len : ∀ (n : Nat) (l : List Rec), (chunksN n l).length ≤ n
  | 0, _ => by simp [chunksN]
  | n + 1, l => by
    have := chunks_len n (l.drop 16)
    unfold chunksN
    split <;> simp <;> omega
theorem ordB_take : ∀ (n : Nat) (l : List Rec) (f : Int), ordB f l = true → ordB f (l.take n) = true
  | 0, _, _, _ => by simp [ordB]
  | n + 1, [], _, _ => rfl
  | n + 1, r :: l, f, h => by
    simp only [ordB, List.take_succ_cons, Bool.and_eq_true] at h ⊢
    exact ⟨h.1, ordB_take n l _ h.2⟩
theorem ordB_drop : ∀ (n : Nat) (l : List Rec) (f : Int), n ≤ l.length → ordB f l = true → ordB (f + (n : Int)) (l.drop n) = true
  | 0, l, f, _, h => by simpa using h
  | n + 1, [], _, hn, _ => by simp at hn
  | n + 1, r :: l, f, hn, h => by
    simp only [ordB, Bool.and_eq_true] at h
    have := ordB_drop n l (f + 1) (by simpa using hn) h.2
    rw [List.drop_succ_cons, show f + ((n + 1 : Nat) : Int) = f + 1 + (n : Int) by omega]
    exact this
theorem ordB_first {l : List Rec} {f : Int} (h : ordB f l = true) (hl : 0 < l.length) : firstR l = f ∧ 0 ≤ f ∧ f < 4611686018427387904 := by
  cases l with
  | nil => simp at hl
  | cons r l =>
    simp only [ordB, Bool.and_eq_true, decide_eq_true_eq] at h
    have hr := (fitR_iff r).1 h.1.1
    have := hr.a0; have := hr.a1; have := h.1.2
    exact ⟨h.1.2, by omega, by omega⟩
theorem chunk_ok {l : List Rec} {f : Int} (h : ordB f l = true) (hl : 0 < l.length) : blkOk (l.take 16) = true := by
  have h2 := ordB_take 16 l f h
  have hlen : 0 < (l.take 16).length ∧ (l.take 16).length ≤ 16 := by rw [List.length_take]; omega
  unfold blkOk
  rw [(ordB_first h2 hlen.1).1, h2]
  simp only [Bool.and_true, Bool.and_eq_true, decide_eq_true_eq]
  omega
theorem chunk_bytes (v : Int) : ∀ (n : Nat) (l : List Rec) (f : Int), ordB f l = true → ∀ d ∈ (chunksN n l).map (dataB v), Bytes d ∧ d.length ≤ 50000
  | 0, _, _, _ => fun d hd => by simp [chunksN] at hd
  | n + 1, l, f, h => fun d hd => by
    unfold chunksN at hd
    split at hd
    · simp at hd
    · rename_i hl
      rw [List.map_cons] at hd
      rcases List.mem_cons.1 hd with rfl | hd
      · exact ⟨dataB_bytes v _, dataB_len _ (chunk_ok h (by omega))⟩
      · by_cases h16 : 16 ≤ l.length
        · exact chunk_bytes v n (l.drop 16) _ (ordB_drop 16 l f h16 h) d hd
        · rw [List.drop_eq_nil_of_le (by omega)] at hd
          exact chunk_bytes v n [] 0 rfl d hd
theorem blocks_l0 {v : Int} (hv : v = 1 ∨ v = 2 ∨ v = 3) : ∀ (n : Nat) (l : List Rec) (f : Int) (out : List (List Int)) (k : Nat), ordB f l = true → l.length ≤ n → out.length + n ≤ 1000000 → n + 700 ≤ k → segment_blocks.l0 k v l out = some (out ++ ((chunksN n l).map (dataB v)).map frB)
  | 0, l, f, out, k, h, hl, ho, hk => by
    obtain ⟨k, rfl⟩ : ∃ j, k = j + 1 := ⟨k - 1, by omega⟩
    simp only [segment_blocks.l0]
    rw [if_pos (by omega)]
    simp [chunksN]
  | n + 1, l, f, out, k, h, hl, ho, hk => by
    obtain ⟨k, rfl⟩ : ∃ j, k = j + 1 := ⟨k - 1, by omega⟩
    simp only [segment_blocks.l0, chunksN]
    by_cases h0 : l.length = 0
    · rw [if_pos h0, if_pos h0]
      simp
    · rw [if_neg h0, if_neg h0]
      have hok := chunk_ok h (by omega)
      have hd := dataB_len (v := v) _ hok
      rw [data_eq hv _ hok k (by omega), Option.bind_some, framed_eq _ (dataB_bytes v _) (by omega) k (by omega), Option.bind_some, if_pos (by omega)]
      by_cases h16 : 16 ≤ l.length
      · rw [blocks_l0 hv n (l.drop 16) _ _ k (ordB_drop 16 l f h16 h) (by rw [List.length_drop]; omega) (by rw [List.length_append, List.length_singleton]; omega) (by omega)]
        simp
      · rw [List.drop_eq_nil_of_le (by omega), blocks_l0 hv n [] 0 _ k rfl (by simp) (by rw [List.length_append, List.length_singleton]; omega) (by omega)]
        simp
theorem blocksF_eq {v : Int} (hv : v = 1 ∨ v = 2 ∨ v = 3) (k : Nat) (hk : 1200 ≤ k) (f : Int) (hf : 0 ≤ f) : ∀ (n : Nat) (l xs : List Rec) (full : Bool), ordB (f + (xs.length : Int)) l = true → l.length ≤ n → xs.length + l.length ≤ 4096 → (0 < l.length → full = true) → blocksF k v f ((chunksN n l).map (dataB v)) xs full = some (xs ++ l.map (upg v))
  | 0, l, xs, full, h, hl, hx, hfull => by
    obtain rfl : l = [] := List.eq_nil_of_length_eq_zero (by omega)
    simp [chunksN, blocksF]
  | n + 1, l, xs, full, h, hl, hx, hfull => by
    unfold chunksN
    by_cases h0 : l.length = 0
    · obtain rfl : l = [] := List.eq_nil_of_length_eq_zero h0
      simp [blocksF]
    · rw [if_neg h0, List.map_cons, blocksF]
      have hok := chunk_ok h (by omega)
      have hff := ordB_first h (by omega)
      have hlen : (l.take 16).length = min 16 l.length := List.length_take
      rw [block_eq hv _ hok k hk, Option.bind_some, if_pos ⟨hfull (by omega), by rw [List.length_map]; omega, by rw [List.length_map]; omega, by rw [List.length_map]; omega⟩,
        fit_eq _ (by rw [List.length_map]; omega) _ hff.2.1 hff.2.2 k (by rw [List.length_map]; omega), ordB_upg v hv _ _ (ordB_take 16 l _ h), Option.bind_some, if_pos (by rw [List.length_map]; simp; omega)]
      by_cases h16 : 16 ≤ l.length
      · have hd := ordB_drop 16 l _ h16 h
        rw [blocksF_eq hv k hk f hf n (l.drop 16) _ _ (by rw [List.length_append, List.length_map, hlen, show f + ((xs.length + min 16 l.length : Nat) : Int) = f + (xs.length : Int) + ((16 : Nat) : Int) by omega]; exact hd) (by rw [List.length_drop]; omega) (by rw [List.length_append, List.length_map, List.length_drop]; omega) (fun _ => by rw [List.length_map, hlen]; simp; omega), List.append_assoc, ← List.map_append, List.take_append_drop]
      · rw [List.drop_eq_nil_of_le (by omega), blocksF_eq hv k hk f hf n [] _ _ rfl (by simp) (by rw [List.length_append, List.length_map]; simp; omega) (fun h => by simp at h), List.take_of_length_le (by omega)]
        simp
/-! ### Head -/
def headB (v kd f : Int) : List Int := [108] ++ pt v ++ pt kd ++ pt f
theorem headB_bytes (v kd f : Int) : Bytes (headB v kd f) := bytes_join (bytes_join (bytes_join (fun c hc => by rw [List.mem_singleton.1 hc]; decide) (pt_bytes _)) (pt_bytes _)) (pt_bytes _)
theorem headB_len (v kd f : Int) : (headB v kd f).length ≤ 28 := by
  have := pt_len v; have := pt_len kd; have := pt_len f
  simp only [headB, List.length_append, List.length_singleton]
  omega
/-- What a head may say. -/
def HeadOk (v kd f : Int) : Prop := (v = 1 ∨ v = 2 ∨ v = 3) ∧ 0 ≤ kd ∧ kd < 6 ∧ 0 ≤ f ∧ f < 4611686018427387904
theorem head_ok {v kd f : Int} (h : HeadOk v kd f) (k : Nat) (hk : 20 ≤ k) : segment_Head.f k v kd f = some (frB (headB v kd f), 0) := by
  obtain ⟨hv, h1, h2, h3, h4⟩ := h
  have := pt_len v; have := pt_len kd; have := pt_len f
  have hkn : segment_known.f v = some true := by unfold segment_known.f; rw [if_pos (by omega), decide_eq_true (by omega)]
  unfold segment_Head.f
  rw [hkn, Option.bind_some, if_pos rfl, if_neg (by omega), if_neg (by omega), if_neg (by omega), if_neg (by omega), put_eq k _ v (by omega) (by simp), Option.bind_some, put_eq k _ kd (by omega) (by simp; omega), Option.bind_some, put_eq k _ f (by omega) (by simp; omega), Option.bind_some]
  have hl := headB_len v kd f
  have := framed_eq (headB v kd f) (headB_bytes v kd f) (by omega) k hk
  unfold headB at this
  rw [this, Option.bind_some]
  rfl
theorem head_fail {v kd f : Int} (h : ¬ HeadOk v kd f) (k : Nat) (hk : 20 ≤ k) : ∃ b e, segment_Head.f k v kd f = some (b, e) ∧ e ≠ 0 := by
  unfold segment_Head.f segment_known.f
  by_cases h1 : v ≥ 1
  · rw [if_pos h1, Option.bind_some]
    by_cases h2 : v ≤ 3
    · rw [decide_eq_true h2, if_pos rfl]
      by_cases h3 : kd < 0
      · exact ⟨_, _, by rw [if_pos h3], by decide⟩
      · rw [if_neg h3]
        by_cases h4 : kd ≥ 6
        · exact ⟨_, _, by rw [if_pos h4], by decide⟩
        · rw [if_neg h4]
          by_cases h5 : f < 0
          · exact ⟨_, _, by rw [if_pos h5], by decide⟩
          · rw [if_neg h5]
            by_cases h6 : f ≥ 4611686018427387904
            · exact ⟨_, _, by rw [if_pos h6], by decide⟩
            · exact absurd ⟨by omega, by omega, by omega, by omega, by omega⟩ h
    · exact ⟨_, _, by rw [decide_eq_false h2, if_neg (by decide)], by decide⟩
  · exact ⟨_, _, by rw [if_neg h1, Option.bind_some, if_neg (by decide)], by decide⟩
theorem headF_eq {v kd f : Int} (h : HeadOk v kd f) (k : Nat) (hk : 40 ≤ k) : headF k (headB v kd f) = some (v, kd, f) := by
  obtain ⟨hv, h1, h2, h3, h4⟩ := h
  have v0 : 0 ≤ v := by omega
  have v1 : v < 4611686018427387904 := by omega
  have p1 := pt_pos v0 v1; have p2 := pt_pos h1 (show kd < 4611686018427387904 by omega); have p3 := pt_pos h3 h4
  have e0 : headB v kd f = 108 :: (pt v ++ (pt kd ++ (pt f ++ []))) := by simp [headB]
  have hb : Bytes (pt v ++ (pt kd ++ (pt f ++ []))) := bytes_join (pt_bytes _) (bytes_join (pt_bytes _) (bytes_join (pt_bytes _) (fun c hc => by cases hc)))
  have hb2 : Bytes (pt kd ++ (pt f ++ [])) := bytes_right hb
  have hb3 : Bytes (pt f ++ []) := bytes_right hb2
  have hkn : segment_known.f v = some true := by unfold segment_known.f; rw [if_pos (by omega), decide_eq_true (by omega)]
  unfold headF
  rw [e0, if_pos ⟨by simp, by simp [rd]⟩, List.drop_one, List.tail_cons, get_eq _ hb k (by omega), Option.bind_some, gt_pt v0 v1]
  simp only
  rw [if_pos ⟨by omega, by rw [List.length_append]; omega⟩, Int.toNat_natCast, List.drop_left' rfl, get_eq _ hb2 k (by omega), Option.bind_some, gt_pt h1 (by omega)]
  simp only
  rw [if_pos ⟨by omega, by rw [List.length_append]; omega⟩, Int.toNat_natCast, List.drop_left' rfl, get_eq _ hb3 k (by omega), Option.bind_some, gt_pt h3 h4]
  simp only
  rw [if_pos ⟨by omega, by simp⟩, if_pos ⟨hkn, h2⟩]
/-! ### Frames and footer -/
theorem frames_l0 (ds : List (List Int)) (hb : ∀ d ∈ ds, Bytes d ∧ d.length ≤ 1048576) (hl : ds.length ≤ 1000000) : ∀ (n i k : Nat) (x : List (List Int)), i + n = ds.length → n + 21 ≤ k → x.length + n ≤ 1000000 → segment_frames.l0 k x ds (ds.length : Int) (i : Int) = some (x ++ (ds.drop i).map frB) := by
  intro n
  induction n with
  | zero =>
    intro i k x hi hk _
    obtain ⟨k, rfl⟩ : ∃ j, k = j + 1 := ⟨k - 1, by omega⟩
    simp only [segment_frames.l0]
    rw [if_neg (by omega), List.drop_eq_nil_of_le (by omega)]
    simp
  | succ n ih =>
    intro i k x hi hk hx
    obtain ⟨k, rfl⟩ : ∃ j, k = j + 1 := ⟨k - 1, by omega⟩
    have hlt : i < ds.length := by omega
    have hd := hb ds[i] (List.getElem_mem hlt)
    simp only [segment_frames.l0]
    rw [if_pos (by omega), if_pos (by omega), if_pos (by omega), rdL_nth ds i hlt, framed_eq _ hd.1 hd.2 k (by omega), Option.bind_some, if_pos (by omega), show wrap64 ((i : Int) + 1) = ((i + 1 : Nat) : Int) from by unfold wrap64; omega, ih (i + 1) k _ (by omega) (by omega) (by rw [List.length_append, List.length_singleton]; omega), List.drop_eq_getElem_cons hlt]
    rw [List.map_cons, List.append_assoc, List.singleton_append]
theorem frames_eq (ds : List (List Int)) (hb : ∀ d ∈ ds, Bytes d ∧ d.length ≤ 1048576) (hl : ds.length ≤ 1000000) (k : Nat) (hk : ds.length + 21 ≤ k) : segment_frames.f k ds = some (ds.map frB) := by
  have := frames_l0 ds hb hl ds.length 0 k [] (by omega) hk (by simpa using hl)
  simpa [segment_frames.f] using this
def lensB : List (List Int) → List Int
  | [] => []
  | f :: fs => pt (f.length : Int) ++ lensB fs
def footB (fs : List (List Int)) : List Int := pt ((fs.length - 1 : Nat) : Int) ++ lensB (fs.take (fs.length - 1))
theorem lensB_bytes : ∀ fs, Bytes (lensB fs)
  | [] => fun c hc => by cases hc
  | f :: fs => bytes_join (pt_bytes _) (lensB_bytes fs)
theorem lensB_len : ∀ fs : List (List Int), (lensB fs).length ≤ 9 * fs.length
  | [] => by simp [lensB]
  | f :: fs => by
    have := lensB_len fs; have := pt_len (f.length : Int)
    simp only [lensB, List.length_append, List.length_cons]
    omega
theorem footB_bytes (fs : List (List Int)) : Bytes (footB fs) := bytes_join (pt_bytes _) (lensB_bytes _)
theorem footB_len (fs : List (List Int)) : (footB fs).length ≤ 9 + 9 * fs.length := by
  have := lensB_len (fs.take (fs.length - 1)); have := pt_len ((fs.length - 1 : Nat) : Int)
  simp only [footB, List.length_append]
  rw [List.length_take] at *
  omega
theorem foot_l0 (fs : List (List Int)) (hl : fs.length ≤ 1000) : ∀ (n i k : Nat) (x : List Int), i + n = fs.length → n + 21 ≤ k → Bytes x → x.length + 9 * n ≤ 100000 → segment_footer.l0 k x fs (fs.length : Int) (i : Int) = some (frB (x ++ lensB (fs.drop i))) := by
  intro n
  induction n with
  | zero =>
    intro i k x hi hk hb hx
    obtain ⟨k, rfl⟩ : ∃ j, k = j + 1 := ⟨k - 1, by omega⟩
    simp only [segment_footer.l0]
    rw [if_neg (by omega), List.drop_eq_nil_of_le (by omega), framed_eq x hb (by omega) k (by omega), Option.bind_some]
    simp [lensB]
  | succ n ih =>
    intro i k x hi hk hb hx
    obtain ⟨k, rfl⟩ : ∃ j, k = j + 1 := ⟨k - 1, by omega⟩
    have hlt : i < fs.length := by omega
    have hp := pt_len (fs[i].length : Int)
    simp only [segment_footer.l0]
    rw [if_pos (by omega), if_pos (by omega), if_pos (by omega), rdL_nth fs i hlt, put_eq k x _ (by omega) (by omega), Option.bind_some, show wrap64 ((i : Int) + 1) = ((i + 1 : Nat) : Int) from by unfold wrap64; omega, ih (i + 1) k _ (by omega) (by omega) (bytes_join hb (pt_bytes _)) (by rw [List.length_append]; omega), List.drop_eq_getElem_cons hlt]
    simp [lensB]
theorem foot_eq (fs : List (List Int)) (hl : fs.length ≤ 1000) (h1 : 1 ≤ fs.length) (k : Nat) (hk : fs.length + 40 ≤ k) : segment_footer.f k fs = some (frB (footB fs)) := by
  have hp := pt_len ((fs.length - 1 : Nat) : Int)
  have hw : wrap64 ((fs.length : Int) - 1) = ((fs.length - 1 : Nat) : Int) := by unfold wrap64; omega
  have hlen : (fs.take (fs.length - 1)).length = fs.length - 1 := by rw [List.length_take]; omega
  have := foot_l0 (fs.take (fs.length - 1)) (by omega) (fs.take (fs.length - 1)).length 0 k (pt ((fs.length - 1 : Nat) : Int)) (by omega) (by omega) (pt_bytes _) (by omega)
  unfold segment_footer.f
  rw [hw, put_eq k [] _ (by omega) (by simp), Option.bind_some, if_pos (by omega), if_pos (by omega), Option.bind_some, Int.toNat_natCast, List.nil_append]
  simpa [footB] using this
/-! ### Segments -/
def dlB (v kd f : Int) (l : List Rec) : List (List Int) := headB v kd f :: (chunksN l.length l).map (dataB v)
def segB (v kd f : Int) (l : List Rec) : List Int := ((dlB v kd f l ++ [footB ((dlB v kd f l).map frB)]).map frB).flatten
theorem dlB_len (v kd f : Int) (l : List Rec) : 1 ≤ (dlB v kd f l).length ∧ (dlB v kd f l).length ≤ l.length + 1 := by
  have := chunks_len l.length l
  simp only [dlB, List.length_cons, List.length_map]
  omega
theorem dlB_bytes (v kd f : Int) (l : List Rec) (h : ordB f l = true) : ∀ d ∈ dlB v kd f l, Bytes d ∧ d.length ≤ 50000 := fun d hd => by
  rcases List.mem_cons.1 hd with rfl | hd
  · exact ⟨headB_bytes _ _ _, by have := headB_len v kd f; omega⟩
  · exact chunk_bytes v l.length l f h d hd
theorem flat_len : ∀ (ds : List (List Int)), (∀ d ∈ ds, d.length ≤ 50000) → ((ds.map frB).flatten).length ≤ 60000 * ds.length
  | [], _ => by simp
  | d :: ds, h => by
    have := flat_len ds (fun x hx => h x (List.mem_cons_of_mem _ hx)); have := h d List.mem_cons_self; have := frB_le d
    rw [List.map_cons, List.flatten_cons, List.length_append, List.length_cons]
    omega
theorem enc_ok {v kd f : Int} (h : HeadOk v kd f) (l : List Rec) (hl : l.length ≤ 100) (ho : ordB f l = true) (k : Nat) (hk : 2000 ≤ k) : segment_Encode.f k v kd f l = some (segB v kd f l, 0) := by
  have hd := dlB_len v kd f l
  have hb := dlB_bytes v kd f l ho
  have hfl := flat_len (dlB v kd f l) (fun d hd => (hb d hd).2)
  have hb0 := blocks_l0 h.1 l.length l f [] k ho (Nat.le_refl _) (by simp; omega) (by omega)
  have hcl := chunks_len l.length l
  unfold segment_Encode.f
  rw [head_ok h k (by omega), Option.bind_some]
  simp only
  rw [if_pos trivial, fit_eq l (by omega) f h.2.2.2.1 h.2.2.2.2 k (by omega), ho, Option.bind_some, if_pos (by simp; omega), Option.bind_some]
  unfold segment_blocks.f
  rw [hb0, Option.bind_some, if_pos (by simp; omega), Option.bind_some]
  have e : [frB (headB v kd f)] ++ ([] ++ ((chunksN l.length l).map (dataB v)).map frB) = (dlB v kd f l).map frB := by simp [dlB]
  rw [e, concat_eq _ (by rw [List.length_map]; omega) (by omega) k (by rw [List.length_map]; omega), Option.bind_some, foot_eq _ (by rw [List.length_map]; omega) (by rw [List.length_map]; omega) k (by rw [List.length_map]; omega), Option.bind_some]
  have hf2 := footB_len ((dlB v kd f l).map frB)
  have hf3 := frB_le (footB ((dlB v kd f l).map frB))
  rw [List.length_map] at hf2
  rw [if_pos (by omega)]
  simp [segB]
theorem enc_fail {v kd f : Int} (l : List Rec) (hl : l.length ≤ 100) (h : ¬ (HeadOk v kd f ∧ ordB f l = true)) (k : Nat) (hk : 2000 ≤ k) : ∃ b e, segment_Encode.f k v kd f l = some (b, e) ∧ e ≠ 0 := by
  unfold segment_Encode.f
  by_cases hh : HeadOk v kd f
  · have ho : ordB f l = false := by
      cases he : ordB f l
      · rfl
      · exact absurd ⟨hh, he⟩ h
    refine ⟨[], 1, ?_, by decide⟩
    rw [head_ok hh k (by omega), Option.bind_some]
    simp only
    rw [if_pos trivial, fit_eq l (by omega) f hh.2.2.2.1 hh.2.2.2.2 k (by omega), ho, Option.bind_some, if_neg (by simp)]
  · obtain ⟨b, e, he, h0⟩ := head_fail hh k (by omega)
    refine ⟨[], e, ?_, h0⟩
    rw [he, Option.bind_some]
    simp only
    rw [if_neg h0]
theorem dec_ok {v kd f : Int} (h : HeadOk v kd f) (l : List Rec) (hl : l.length ≤ 100) (ho : ordB f l = true) (k : Nat) (hk : 2000 ≤ k) : decodeF k (segB v kd f l) = some (kd, f, l.map (upg v)) := by
  have hd := dlB_len v kd f l
  have hb := dlB_bytes v kd f l ho
  have hb2 : ∀ d ∈ dlB v kd f l, Bytes d ∧ d.length ≤ 1048576 := fun d hd => ⟨(hb d hd).1, by have := (hb d hd).2; omega⟩
  have hfl := flat_len (dlB v kd f l) (fun d hd => (hb d hd).2)
  obtain ⟨dl, hdl⟩ : ∃ dl, dl = dlB v kd f l := ⟨_, rfl⟩
  obtain ⟨ft, hft⟩ : ∃ ft, ft = footB (dl.map frB) := ⟨_, rfl⟩
  have hf2 := footB_len (dl.map frB)
  rw [← hft, List.length_map] at hf2
  rw [← hdl] at hd hb hb2 hfl
  have hfb : Bytes ft := by rw [hft]; exact footB_bytes _
  have hall : ∀ d ∈ dl ++ [ft], Bytes d ∧ d.length ≤ 1048576 := fun d hd => by
    rcases List.mem_append.1 hd with hd | hd
    · exact hb2 d hd
    · rw [List.mem_singleton.1 hd]; exact ⟨hfb, by omega⟩
  have hfr := frB_le ft
  have hf1 : ([ft].map frB).flatten = frB ft := by simp
  have hlen : (dl ++ [ft]).length = dl.length + 1 := by simp
  have ht : (dl ++ [ft]).take ((dl ++ [ft]).length - 1) = dl := by rw [hlen, Nat.add_sub_cancel, List.take_left' rfl]
  have hr : rd_L2 (dl ++ [ft]) (((dl ++ [ft]).length : Int) - 1) = ft := by
    rw [hlen, show ((dl.length + 1 : Nat) : Int) - 1 = (dl.length : Int) by omega, rdL_nth _ _ (by rw [hlen]; omega)]
    simp
  have hw : walkF k dl = some (kd, f, l.map (upg v)) := by
    unfold walkF
    have e1 : rd_L2 dl 0 = headB v kd f := by rw [hdl]; rfl
    have e2 : dl.drop 1 = (chunksN l.length l).map (dataB v) := by rw [hdl]; rfl
    rw [if_pos (by omega), e1, headF_eq h k (by omega), Option.bind_some]
    simp only
    rw [if_pos ⟨h.2.2.2.1, h.2.2.2.2⟩, e2, blocksF_eq h.1 k (by omega) f h.2.2.2.1 l.length l [] true (by simpa using ho) (Nat.le_refl _) (by simp; omega) (fun _ => rfl), Option.bind_some]
    simp
  unfold decodeF segB
  rw [← hdl, ← hft, all_eq _ hall (by rw [List.map_append, List.flatten_append, List.length_append, hf1]; omega) (by rw [hlen]; omega) k (by rw [hlen]; omega), Option.bind_some]
  simp only
  rw [if_pos ⟨trivial, by rw [hlen]; omega⟩, ht, hr, hw, Option.bind_some, frames_eq dl hb2 (by omega) k (by omega), Option.bind_some, foot_eq _ (by rw [List.length_map]; omega) (by rw [List.length_map]; omega) k (by rw [List.length_map]; omega), Option.bind_some, framed_eq ft hfb (by omega) k (by omega), Option.bind_some, ← hft]
  unfold bytes_Equal.f
  rw [Option.bind_some, if_pos (by simp)]
end Go.Proofs.YtgljebaiakhbfaaGreat.Pure
