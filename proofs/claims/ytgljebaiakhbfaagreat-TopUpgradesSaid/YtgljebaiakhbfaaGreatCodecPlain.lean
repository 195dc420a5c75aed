/- What this text proves: plain facts on operations and states as bytes; no condition. -/
import Derived.Test.YtgljebaiakhbfaaGreatNumPlain
namespace Go.Proofs.YtgljebaiakhbfaaGreat.CodecPlain
open Go.Proofs.YtgljebaiakhbfaaGreat.NumPlain
/-! ### What begins with a number -/
theorem gt_cases (l : List Int) (hb : Bytes l) : gt l = (0, 0) ∨ ∃ n r, 0 ≤ n ∧ n < 4611686018427387904 ∧ l = pt n ++ r ∧ gt l = (n, ((pt n).length : Int)) := by
  rcases gt_once l hb with ⟨h1, h2⟩ | ⟨h1, h2, h3, h4, h5⟩
  · exact .inl (Prod.ext h2 h1)
  · refine .inr ⟨(gt l).1, l.drop (gt l).2.toNat, h3, h4, by rw [h5, List.take_append_drop], Prod.ext rfl ?_⟩
    show (gt l).2 = _
    rw [h5, List.length_take]; omega
theorem gS_cases (l : List Int) (hb : Bytes l) : gS l = (0, 0) ∨ ∃ n r, I64 n ∧ l = pS n ++ r ∧ gS l = (n, ((pS n).length : Int)) := by
  rcases gS_once l hb with ⟨h1, h2⟩ | ⟨h1, h2, h3, h4⟩
  · exact .inl (Prod.ext h2 h1)
  · refine .inr ⟨(gS l).1, l.drop (gS l).2.toNat, h3, by rw [h4, List.take_append_drop], Prod.ext rfl ?_⟩
    show (gS l).2 = _
    rw [h4, List.length_take]; omega
theorem pt_pos {n : Int} (h0 : 0 ≤ n) (h1 : n < 4611686018427387904) : 1 ≤ (pt n).length := by unfold pt; rw [if_pos ⟨h0, h1⟩]; exact gr_pos _
theorem pS_pos (n : Int) : 1 ≤ (pS n).length := gr_pos _
theorem bytes_right {a b : List Int} (h : Bytes (a ++ b)) : Bytes b := fun c hc => h c (List.mem_append_right _ hc)
theorem bytes_join {a b : List Int} (ha : Bytes a) (hb : Bytes b) : Bytes (a ++ b) := fun c hc => by
  rcases List.mem_append.1 hc with h | h
  · exact ha c h
  · exact hb c h
/-! ### Operations -/
def cutP (n : Int) : Int := if n < -1099511627776 then -1099511627776 else if 1099511627776 < n then 1099511627776 else n
theorem cutP_eq (n : Int) : (n = cutP n) ↔ (-1099511627776 ≤ n ∧ n ≤ 1099511627776) := by unfold cutP; split <;> (try split) <;> omega
theorem cutP_dec (n : Int) : decide (n = cutP n) = decide (-1099511627776 ≤ n ∧ n ≤ 1099511627776) := decide_eq_decide.2 (cutP_eq n)
def fitsB (c a b : Int) : Bool := decide (0 ≤ c) && decide (c ≤ 10) && decide (a = cutP a) && decide (b = cutP b)
theorem fitsB_iff (c a b : Int) : fitsB c a b = true ↔ 0 ≤ c ∧ c ≤ 10 ∧ (-1099511627776 ≤ a ∧ a ≤ 1099511627776) ∧ (-1099511627776 ≤ b ∧ b ≤ 1099511627776) := by
  unfold fitsB
  rw [cutP_dec, cutP_dec]
  simp only [Bool.and_eq_true, decide_eq_true_eq]
  omega
def opB (c a b : Int) : List Int := pt c ++ pS a ++ pS b
theorem opB_len {c a b : Int} (ha : I64 a) (hb : I64 b) : (opB c a b).length ≤ 29 := by
  unfold opB
  rw [List.length_append, List.length_append]
  have := pt_len c; have := pS_len ha; have := pS_len hb
  omega
theorem opB_bytes (c a b : Int) : Bytes (opB c a b) := bytes_join (bytes_join (pt_bytes c) (pS_bytes a)) (pS_bytes b)
theorem fits_i64 {c a b : Int} (h : fitsB c a b = true) : I64 a ∧ I64 b ∧ 0 ≤ c ∧ c < 4611686018427387904 := by
  have := (fitsB_iff c a b).1 h
  unfold I64
  omega
/-- What GetOp gets. -/
def gOp (l : List Int) : Int × Int × Int × Int :=
  let p := gt l; let q := gS (l.drop p.2.toNat); let s := gS ((l.drop p.2.toNat).drop q.2.toNat)
  if p.2 > 0 ∧ q.2 > 0 ∧ s.2 > 0 ∧ fitsB p.1 q.1 s.1 = true then (p.1, q.1, s.1, p.2 + q.2 + s.2) else (0, 0, 0, 0)
theorem gOp_opB {c a b : Int} (h : fitsB c a b = true) (r : List Int) : gOp (opB c a b ++ r) = (c, a, b, ((opB c a b).length : Int)) := by
  obtain ⟨h1, h2, h3, h4⟩ := fits_i64 h
  have hp := pt_pos h3 h4
  have hq := pS_pos a
  have hs := pS_pos b
  have e1 : opB c a b ++ r = pt c ++ (pS a ++ (pS b ++ r)) := by simp [opB]
  have d1 : (opB c a b ++ r).drop (pt c).length = pS a ++ (pS b ++ r) := by rw [e1, List.drop_left]
  have hl : ((opB c a b).length : Int) = (pt c).length + (pS a).length + (pS b).length := by simp [opB]; omega
  unfold gOp
  have g1 : gt (opB c a b ++ r) = (c, ((pt c).length : Int)) := by rw [e1]; exact gt_pt h3 h4 _
  simp only [g1, Int.toNat_natCast, d1, gS_pS h1, List.drop_left, gS_pS h2]
  rw [if_pos ⟨by omega, by omega, by omega, h⟩, hl]
theorem gOp_cases (l : List Int) (hb : Bytes l) : gOp l = (0, 0, 0, 0) ∨ ∃ c a b r, fitsB c a b = true ∧ l = opB c a b ++ r ∧ gOp l = (c, a, b, ((opB c a b).length : Int)) := by
  by_cases h : (gt l).2 > 0 ∧ (gS (l.drop (gt l).2.toNat)).2 > 0 ∧ (gS ((l.drop (gt l).2.toNat).drop (gS (l.drop (gt l).2.toNat)).2.toNat)).2 > 0 ∧ fitsB (gt l).1 (gS (l.drop (gt l).2.toNat)).1 (gS ((l.drop (gt l).2.toNat).drop (gS (l.drop (gt l).2.toNat)).2.toNat)).1 = true
  · right
    obtain ⟨h1, h2, h3, h4⟩ := h
    rcases gt_cases l hb with e | ⟨c, r1, hc0, hc1, e1, e2⟩
    · rw [e] at h1; exact absurd h1 (by decide)
    rw [e2] at h2 h3 h4
    simp only [Int.toNat_natCast] at h2 h3 h4
    rw [e1, List.drop_left] at h2 h3 h4
    have hb1 : Bytes r1 := bytes_right (e1 ▸ hb)
    rcases gS_cases r1 hb1 with e | ⟨a, r2, ha, e3, e4⟩
    · rw [e] at h2; exact absurd h2 (by decide)
    rw [e4] at h3 h4
    simp only [Int.toNat_natCast] at h3 h4
    rw [e3, List.drop_left] at h3 h4
    have hb2 : Bytes r2 := bytes_right (e3 ▸ hb1)
    rcases gS_cases r2 hb2 with e | ⟨b, r3, hb3, e5, e6⟩
    · rw [e] at h3; exact absurd h3 (by decide)
    rw [e6] at h4
    simp only at h4
    have e7 : l = opB c a b ++ r3 := by rw [e1, e3, e5]; simp [opB]
    exact ⟨c, a, b, r3, h4, e7, by rw [e7]; exact gOp_opB h4 r3⟩
  · left
    unfold gOp
    exact if_neg h
theorem opB_pos {c a b : Int} (h : fitsB c a b = true) : 1 ≤ (opB c a b).length := by
  obtain ⟨h1, h2, h3, h4⟩ := fits_i64 h
  have := pt_pos h3 h4
  unfold opB
  rw [List.length_append, List.length_append]
  omega
/-! ### Which states may be -/
/-! ### States -/
end Go.Proofs.YtgljebaiakhbfaaGreat.CodecPlain
