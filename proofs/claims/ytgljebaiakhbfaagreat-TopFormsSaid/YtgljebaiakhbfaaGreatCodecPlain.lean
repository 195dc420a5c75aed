/- What this text proves: plain facts on operations and states as bytes; no condition. -/
import Derived.Test.YtgljebaiakhbfaaGreatNumPlain
namespace Go.Proofs.YtgljebaiakhbfaaGreat.CodecPlain
open Go.Proofs.YtgljebaiakhbfaaGreat.NumPlain
/-! ### What begins with a number -/
theorem gt_cases (l : List Int) (hb : Bytes l) : gt l = (0, 0) ∨ ∃ n r, 0 ≤ n ∧ n < 4611686018427387904 ∧ l = pt n ++ r ∧ gt l = (n, ((pt n).length : Int)) := by
  rcases gt_once l hb with ⟨h1, h2⟩ | ⟨h1, h2, h3, h4, h5⟩
  · exact .inl (Prod.ext h2 h1)
  · refine .inr ⟨(gt l).1, l.drop (gt l).2.toNat, h3, h4, by rw [h5, List.take_append_drop], Prod.ext rfl ?_⟩
    show (gt l).2 = _
    rw [h5, List.length_take]; omega
theorem gS_cases (l : List Int) (hb : Bytes l) : gS l = (0, 0) ∨ ∃ n r, I64 n ∧ l = pS n ++ r ∧ gS l = (n, ((pS n).length : Int)) := by
  rcases gS_once l hb with ⟨h1, h2⟩ | ⟨h1, h2, h3, h4⟩
  · exact .inl (Prod.ext h2 h1)
  · refine .inr ⟨(gS l).1, l.drop (gS l).2.toNat, h3, by rw [h4, List.take_append_drop], Prod.ext rfl ?_⟩
    show (gS l).2 = _
    rw [h4, List.length_take]; omega
theorem pt_pos {n : Int} (h0 : 0 ≤ n) (h1 : n < 4611686018427387904) : 1 ≤ (pt n).length := by unfold pt; rw [if_pos ⟨h0, h1⟩]; exact gr_pos _
theorem pS_pos (n : Int) : 1 ≤ (pS n).length := gr_pos _
theorem pt_front {n m : Int} {r s : List Int} (h0 : 0 ≤ n) (h1 : n < 4611686018427387904) (g0 : 0 ≤ m) (g1 : m < 4611686018427387904) (h : pt n ++ r = pt m ++ s) : n = m ∧ r = s := by
  have e1 := gt_pt h0 h1 r
  rw [h, gt_pt g0 g1 s] at e1
  have e2 := (Prod.mk.inj e1).1
  subst e2
  exact ⟨rfl, List.append_cancel_left h⟩
theorem pS_front {n m : Int} {r s : List Int} (h0 : I64 n) (g0 : I64 m) (h : pS n ++ r = pS m ++ s) : n = m ∧ r = s := by
  have e1 := gS_pS h0 r
  rw [h, gS_pS g0 s] at e1
  have e2 := (Prod.mk.inj e1).1
  subst e2
  exact ⟨rfl, List.append_cancel_left h⟩
theorem bytes_left {a b : List Int} (h : Bytes (a ++ b)) : Bytes a := fun c hc => h c (List.mem_append_left _ hc)
theorem bytes_right {a b : List Int} (h : Bytes (a ++ b)) : Bytes b := fun c hc => h c (List.mem_append_right _ hc)
theorem bytes_join {a b : List Int} (ha : Bytes a) (hb : Bytes b) : Bytes (a ++ b) := fun c hc => by
  rcases List.mem_append.1 hc with h | h
  · exact ha c h
  · exact hb c h
/-! ### Operations -/
def cutP (n : Int) : Int := if n < -1099511627776 then -1099511627776 else if 1099511627776 < n then 1099511627776 else n
theorem cutP_eq (n : Int) : (n = cutP n) ↔ (-1099511627776 ≤ n ∧ n ≤ 1099511627776) := by unfold cutP; split <;> (try split) <;> omega
theorem cutP_dec (n : Int) : decide (n = cutP n) = decide (-1099511627776 ≤ n ∧ n ≤ 1099511627776) := decide_eq_decide.2 (cutP_eq n)
def fitsB (c a b : Int) : Bool := decide (0 ≤ c) && decide (c ≤ 10) && decide (a = cutP a) && decide (b = cutP b)
theorem fitsB_iff (c a b : Int) : fitsB c a b = true ↔ 0 ≤ c ∧ c ≤ 10 ∧ (-1099511627776 ≤ a ∧ a ≤ 1099511627776) ∧ (-1099511627776 ≤ b ∧ b ≤ 1099511627776) := by
  unfold fitsB
  rw [cutP_dec, cutP_dec]
  simp only [Bool.and_eq_true, decide_eq_true_eq]
  omega
def opB (c a b : Int) : List Int := pt c ++ pS a ++ pS b
theorem opB_len {c a b : Int} (ha : I64 a) (hb : I64 b) : (opB c a b).length ≤ 29 := by
  unfold opB
  rw [List.length_append, List.length_append]
  have := pt_len c; have := pS_len ha; have := pS_len hb
  omega
theorem opB_bytes (c a b : Int) : Bytes (opB c a b) := bytes_join (bytes_join (pt_bytes c) (pS_bytes a)) (pS_bytes b)
theorem fits_i64 {c a b : Int} (h : fitsB c a b = true) : I64 a ∧ I64 b ∧ 0 ≤ c ∧ c < 4611686018427387904 := by
  have := (fitsB_iff c a b).1 h
  unfold I64
  omega
theorem opB_front {c a b c' a' b' : Int} {r s : List Int} (h : fitsB c a b = true) (g : fitsB c' a' b' = true) (e : opB c a b ++ r = opB c' a' b' ++ s) : c = c' ∧ a = a' ∧ b = b' ∧ r = s := by
  obtain ⟨h1, h2, h3, h4⟩ := fits_i64 h
  obtain ⟨g1, g2, g3, g4⟩ := fits_i64 g
  unfold opB at e
  simp only [List.append_assoc] at e
  obtain ⟨rfl, e1⟩ := pt_front h3 h4 g3 g4 e
  obtain ⟨rfl, e2⟩ := pS_front h1 g1 e1
  obtain ⟨rfl, e3⟩ := pS_front h2 g2 e2
  exact ⟨rfl, rfl, rfl, e3⟩
/-- What GetOp gets. -/
def gOp (l : List Int) : Int × Int × Int × Int :=
  let p := gt l; let q := gS (l.drop p.2.toNat); let s := gS ((l.drop p.2.toNat).drop q.2.toNat)
  if p.2 > 0 ∧ q.2 > 0 ∧ s.2 > 0 ∧ fitsB p.1 q.1 s.1 = true then (p.1, q.1, s.1, p.2 + q.2 + s.2) else (0, 0, 0, 0)
theorem gOp_opB {c a b : Int} (h : fitsB c a b = true) (r : List Int) : gOp (opB c a b ++ r) = (c, a, b, ((opB c a b).length : Int)) := by
  obtain ⟨h1, h2, h3, h4⟩ := fits_i64 h
  have hp := pt_pos h3 h4
  have hq := pS_pos a
  have hs := pS_pos b
  have e1 : opB c a b ++ r = pt c ++ (pS a ++ (pS b ++ r)) := by simp [opB]
  have d1 : (opB c a b ++ r).drop (pt c).length = pS a ++ (pS b ++ r) := by rw [e1, List.drop_left]
  have hl : ((opB c a b).length : Int) = (pt c).length + (pS a).length + (pS b).length := by simp [opB]; omega
  unfold gOp
  have g1 : gt (opB c a b ++ r) = (c, ((pt c).length : Int)) := by rw [e1]; exact gt_pt h3 h4 _
  simp only [g1, Int.toNat_natCast, d1, gS_pS h1, List.drop_left, gS_pS h2]
  rw [if_pos ⟨by omega, by omega, by omega, h⟩, hl]
theorem gOp_cases (l : List Int) (hb : Bytes l) : gOp l = (0, 0, 0, 0) ∨ ∃ c a b r, fitsB c a b = true ∧ l = opB c a b ++ r ∧ gOp l = (c, a, b, ((opB c a b).length : Int)) := by
  by_cases h : (gt l).2 > 0 ∧ (gS (l.drop (gt l).2.toNat)).2 > 0 ∧ (gS ((l.drop (gt l).2.toNat).drop (gS (l.drop (gt l).2.toNat)).2.toNat)).2 > 0 ∧ fitsB (gt l).1 (gS (l.drop (gt l).2.toNat)).1 (gS ((l.drop (gt l).2.toNat).drop (gS (l.drop (gt l).2.toNat)).2.toNat)).1 = true
  · right
    obtain ⟨h1, h2, h3, h4⟩ := h
    rcases gt_cases l hb with e | ⟨c, r1, hc0, hc1, e1, e2⟩
    · rw [e] at h1; exact absurd h1 (by decide)
    rw [e2] at h2 h3 h4
    simp only [Int.toNat_natCast] at h2 h3 h4
    rw [e1, List.drop_left] at h2 h3 h4
    have hb1 : Bytes r1 := bytes_right (e1 ▸ hb)
    rcases gS_cases r1 hb1 with e | ⟨a, r2, ha, e3, e4⟩
    · rw [e] at h2; exact absurd h2 (by decide)
    rw [e4] at h3 h4
    simp only [Int.toNat_natCast] at h3 h4
    rw [e3, List.drop_left] at h3 h4
    have hb2 : Bytes r2 := bytes_right (e3 ▸ hb1)
    rcases gS_cases r2 hb2 with e | ⟨b, r3, hb3, e5, e6⟩
    · rw [e] at h3; exact absurd h3 (by decide)
    rw [e6] at h4
    simp only at h4
    have e7 : l = opB c a b ++ r3 := by rw [e1, e3, e5]; simp [opB]
    exact ⟨c, a, b, r3, h4, e7, by rw [e7]; exact gOp_opB h4 r3⟩
  · left
    unfold gOp
    exact if_neg h
theorem gOp_none {l : List Int} (hb : Bytes l) (h : ∀ c a b r, fitsB c a b = true → l ≠ opB c a b ++ r) : gOp l = (0, 0, 0, 0) := by
  rcases gOp_cases l hb with e | ⟨c, a, b, r, h1, h2, _⟩
  · exact e
  · exact absurd h2 (h c a b r h1)
theorem opB_pos {c a b : Int} (h : fitsB c a b = true) : 1 ≤ (opB c a b).length := by
  obtain ⟨h1, h2, h3, h4⟩ := fits_i64 h
  have := pt_pos h3 h4
  unfold opB
  rw [List.length_append, List.length_append]
  omega
/-! ### Which states may be -/
def prs (least : Int) : Int → List Int → Bool
  | last, a :: b :: r => decide (last < a) && decide (a ≤ 255) && decide (least ≤ b) && decide (b ≤ 1099511627776) && prs least a r
  | _, _ => true
def pairsB (l : List Int) (least : Int) : Bool := prs least (-1) l && decide ((l.length : Int) % 2 = 0) && decide ((l.length : Int) ≤ 128)
def inB (l : List Int) : Bool := l.all fun n => decide (n = cutP n)
def mayB (kind : Int) (l : List Int) (sealed : Bool) (eng : Int) : Bool :=
  decide (0 ≤ eng) && decide (eng < 3) && (sealed || decide (eng = 0)) &&
  (if kind = 0 ∨ kind = 1 then decide ((l.length : Int) = 1) && inB l else if kind = 2 ∨ kind = 3 then decide ((l.length : Int) ≤ 64) && inB l else if kind = 4 then pairsB l (-1099511627776) else if kind = 5 then pairsB l 0 else false)
theorem mayB_facts {kind : Int} {l : List Int} {sealed : Bool} {eng : Int} (h : mayB kind l sealed eng = true) : 0 ≤ eng ∧ eng < 3 ∧ (sealed = false → eng = 0) ∧ 0 ≤ kind ∧ kind ≤ 5 ∧ l.length ≤ 128 := by
  unfold mayB at h
  simp only [Bool.and_eq_true, decide_eq_true_eq, Bool.or_eq_true] at h
  obtain ⟨⟨⟨h1, h2⟩, h3⟩, h4⟩ := h
  refine ⟨h1, h2, fun hs => by rw [hs] at h3; simpa using h3, ?_⟩
  split at h4
  · simp only [Bool.and_eq_true, decide_eq_true_eq] at h4; omega
  · split at h4
    · simp only [Bool.and_eq_true, decide_eq_true_eq] at h4; omega
    · split at h4
      · unfold pairsB at h4; simp only [Bool.and_eq_true, decide_eq_true_eq] at h4; omega
      · split at h4
        · unfold pairsB at h4; simp only [Bool.and_eq_true, decide_eq_true_eq] at h4; omega
        · cases h4
/-! ### States -/
def numsB (l : List Int) : List Int := l.flatMap pS
theorem numsB_cons (x : Int) (l : List Int) : numsB (x :: l) = pS x ++ numsB l := by simp [numsB]
theorem numsB_snoc (l : List Int) (x : Int) : numsB (l ++ [x]) = numsB l ++ pS x := by simp [numsB]
theorem numsB_bytes (l : List Int) : Bytes (numsB l) := by
  induction l with
  | nil => intro c hc; cases hc
  | cons x l ih => rw [numsB_cons]; exact bytes_join (pS_bytes x) ih
theorem numsB_len {l : List Int} (h : ∀ x ∈ l, I64 x) : (numsB l).length ≤ 10 * l.length := by
  induction l with
  | nil => simp [numsB]
  | cons x l ih =>
    rw [numsB_cons, List.length_append, List.length_cons]
    have := pS_len (h x List.mem_cons_self)
    have := ih fun y hy => h y (List.mem_cons_of_mem _ hy)
    omega
theorem numsB_front : ∀ {l m : List Int} {r s : List Int}, (∀ x ∈ l, I64 x) → (∀ x ∈ m, I64 x) → l.length = m.length → numsB l ++ r = numsB m ++ s → l = m ∧ r = s
  | [], [], _, _, _, _, _, e => ⟨rfl, by simpa [numsB] using e⟩
  | [], _ :: _, _, _, _, _, h, _ => by simp at h
  | _ :: _, [], _, _, _, _, h, _ => by simp at h
  | x :: l, y :: m, r, s, hl, hm, h, e => by
    rw [numsB_cons, numsB_cons, List.append_assoc, List.append_assoc] at e
    obtain ⟨rfl, e1⟩ := pS_front (hl x List.mem_cons_self) (hm y List.mem_cons_self) e
    obtain ⟨rfl, e2⟩ := numsB_front (fun z hz => hl z (List.mem_cons_of_mem _ hz)) (fun z hz => hm z (List.mem_cons_of_mem _ hz)) (by simpa using h) e1
    exact ⟨rfl, e2⟩
/-- So many numbers that bytes begin with, and what stands behind them. -/
def gN : Nat → List Int → Option (List Int × List Int)
  | 0, l => some ([], l)
  | n + 1, l => if (gS l).2 = 0 then none else match gN n (l.drop (gS l).2.toNat) with
    | some (xs, r) => some ((gS l).1 :: xs, r)
    | none => none
theorem gN_back {xs : List Int} (h : ∀ x ∈ xs, I64 x) (r : List Int) : gN xs.length (numsB xs ++ r) = some (xs, r) := by
  induction xs with
  | nil => simp [gN, numsB]
  | cons x xs ih =>
    have hp := pS_pos x
    rw [numsB_cons, List.append_assoc, List.length_cons, gN, gS_pS (h x List.mem_cons_self)]
    simp only [Int.toNat_natCast, List.drop_left]
    rw [if_neg (by omega), ih fun y hy => h y (List.mem_cons_of_mem _ hy)]
theorem gN_once : ∀ (n : Nat) {l xs r : List Int}, Bytes l → gN n l = some (xs, r) → l = numsB xs ++ r ∧ xs.length = n ∧ ∀ x ∈ xs, I64 x
  | 0, l, xs, r, _, h => by
    simp only [gN, Option.some.injEq, Prod.mk.injEq] at h
    obtain ⟨rfl, rfl⟩ := h
    exact ⟨rfl, rfl, fun x hx => by cases hx⟩
  | n + 1, l, xs, r, hb, h => by
    rw [gN] at h
    split at h
    · cases h
    · rename_i h0
      rcases gS_cases l hb with e | ⟨a, r1, ha, e1, e2⟩
      · rw [e] at h0; exact absurd rfl h0
      · rw [e2] at h
        simp only [Int.toNat_natCast] at h
        rw [e1, List.drop_left] at h
        split at h
        · rename_i ys r' he
          simp only [Option.some.injEq, Prod.mk.injEq] at h
          obtain ⟨rfl, rfl⟩ := h
          obtain ⟨i1, i2, i3⟩ := gN_once n (bytes_right (e1 ▸ hb)) he
          refine ⟨by rw [e1, i1, numsB_cons, List.append_assoc], by rw [List.length_cons, i2], fun x hx => ?_⟩
          rcases List.mem_cons.1 hx with rfl | hx
          · exact ha
          · exact i3 x hx
        · cases h
/-- A state's bytes by its kind, its mark as a number, its numbers. -/
def stB (kind sl : Int) (l : List Int) : List Int := pt kind ++ pt sl ++ pt (l.length : Int) ++ numsB l
structure StOk (kind sl : Int) (l : List Int) : Prop where
  k0 : 0 ≤ kind
  k1 : kind < 4611686018427387904
  s0 : 0 ≤ sl
  s1 : sl ≤ 3
  n1 : l.length ≤ 128
  i64 : ∀ x ∈ l, I64 x
theorem stB_bytes (kind sl : Int) (l : List Int) : Bytes (stB kind sl l) := bytes_join (bytes_join (bytes_join (pt_bytes _) (pt_bytes _)) (pt_bytes _)) (numsB_bytes l)
theorem stB_len {kind sl : Int} {l : List Int} (h : StOk kind sl l) : (stB kind sl l).length ≤ 1307 := by
  unfold stB
  rw [List.length_append, List.length_append, List.length_append]
  have := pt_len kind; have := pt_len sl; have := pt_len (l.length : Int); have := numsB_len h.i64; have := h.n1
  omega
theorem stB_front {kind sl kind' sl' : Int} {l l' r s : List Int} (h : StOk kind sl l) (g : StOk kind' sl' l') (e : stB kind sl l ++ r = stB kind' sl' l' ++ s) : kind = kind' ∧ sl = sl' ∧ l = l' ∧ r = s := by
  unfold stB at e
  simp only [List.append_assoc] at e
  have := h.s1; have := g.s1; have := h.n1; have := g.n1
  obtain ⟨rfl, e1⟩ := pt_front h.k0 h.k1 g.k0 g.k1 e
  obtain ⟨rfl, e2⟩ := pt_front h.s0 (by omega) g.s0 (by omega) e1
  obtain ⟨e0, e3⟩ := pt_front (by omega) (by omega) (by omega) (by omega) e2
  obtain ⟨rfl, e4⟩ := numsB_front h.i64 g.i64 (by omega) e3
  exact ⟨rfl, rfl, rfl, e4⟩
/-- What DecodeState gets: the three numbers and the others. -/
def gSt (l : List Int) : Option (Int × Int × List Int) :=
  let p := gt l; let q := gt (l.drop p.2.toNat); let s := gt ((l.drop p.2.toNat).drop q.2.toNat)
  if p.2 > 0 ∧ q.2 > 0 ∧ s.2 > 0 ∧ q.1 ≤ 3 ∧ s.1 ≤ 128 then
    match gN s.1.toNat (((l.drop p.2.toNat).drop q.2.toNat).drop s.2.toNat) with
    | some (xs, r) => if r.length = 0 then some (p.1, q.1, xs) else none
    | none => none
  else none
theorem gSt_eq (l : List Int) : gSt l = if (gt l).2 > 0 ∧ (gt (l.drop (gt l).2.toNat)).2 > 0 ∧ (gt ((l.drop (gt l).2.toNat).drop (gt (l.drop (gt l).2.toNat)).2.toNat)).2 > 0 ∧ (gt (l.drop (gt l).2.toNat)).1 ≤ 3 ∧ (gt ((l.drop (gt l).2.toNat).drop (gt (l.drop (gt l).2.toNat)).2.toNat)).1 ≤ 128 then
    match gN (gt ((l.drop (gt l).2.toNat).drop (gt (l.drop (gt l).2.toNat)).2.toNat)).1.toNat (((l.drop (gt l).2.toNat).drop (gt (l.drop (gt l).2.toNat)).2.toNat).drop (gt ((l.drop (gt l).2.toNat).drop (gt (l.drop (gt l).2.toNat)).2.toNat)).2.toNat) with
    | some (xs, r) => if r.length = 0 then some ((gt l).1, (gt (l.drop (gt l).2.toNat)).1, xs) else none
    | none => none
  else none := rfl
theorem gSt_of {l d1 d2 d3 : List Int} {kind sl m : Int} {n1 n2 n3 : Nat} (g1 : gt l = (kind, (n1 : Int))) (e1 : l.drop n1 = d1) (g2 : gt d1 = (sl, (n2 : Int))) (e2 : d1.drop n2 = d2) (g3 : gt d2 = (m, (n3 : Int))) (e3 : d2.drop n3 = d3)
    (h1 : 0 < n1) (h2 : 0 < n2) (h3 : 0 < n3) (h4 : sl ≤ 3) (h5 : m ≤ 128) : gSt l = match gN m.toNat d3 with
    | some (xs, r) => if r.length = 0 then some (kind, sl, xs) else none
    | none => none := by
  have hc : (n1 : Int) > 0 ∧ (n2 : Int) > 0 ∧ (n3 : Int) > 0 ∧ sl ≤ 3 ∧ m ≤ 128 := ⟨Int.natCast_pos.2 h1, Int.natCast_pos.2 h2, Int.natCast_pos.2 h3, h4, h5⟩
  subst e3 e2 e1
  unfold gSt
  simp only [g1, Int.toNat_natCast, g2, g3]
  rw [if_pos hc]
theorem gSt_stB {kind sl : Int} {l : List Int} (h : StOk kind sl l) (r : List Int) : gSt (stB kind sl l ++ r) = if r.length = 0 then some (kind, sl, l) else none := by
  have s1 := h.s1
  have n1 := h.n1
  have e1 : stB kind sl l ++ r = pt kind ++ (pt sl ++ (pt (l.length : Int) ++ (numsB l ++ r))) := by simp [stB]
  rw [e1, gSt_of (gt_pt h.k0 h.k1 _) List.drop_left (gt_pt h.s0 (by omega) _) List.drop_left (gt_pt (by omega) (by omega) _) List.drop_left (pt_pos h.k0 h.k1) (pt_pos h.s0 (by omega)) (pt_pos (by omega) (by omega)) s1 (by omega), Int.toNat_natCast, gN_back h.i64]
theorem gSt_once {l : List Int} (hb : Bytes l) {kind sl : Int} {xs : List Int} (h : gSt l = some (kind, sl, xs)) : l = stB kind sl xs ∧ StOk kind sl xs := by
  unfold gSt at h
  simp only at h
  split at h
  · rename_i hc
    obtain ⟨h1, h2, h3, h4, h5⟩ := hc
    rcases gt_cases l hb with e | ⟨c, r1, hc0, hc1, e1, e2⟩
    · rw [e] at h1; exact absurd h1 (by decide)
    rw [e2] at h h2 h3 h4 h5
    simp only [Int.toNat_natCast] at h h2 h3 h4 h5
    rw [e1, List.drop_left] at h h2 h3 h4 h5
    have hb1 : Bytes r1 := bytes_right (e1 ▸ hb)
    rcases gt_cases r1 hb1 with e | ⟨a, r2, ha0, ha1, e3, e4⟩
    · rw [e] at h2; exact absurd h2 (by decide)
    rw [e4] at h h3 h4 h5
    simp only [Int.toNat_natCast] at h h3 h4 h5
    rw [e3, List.drop_left] at h h3 h5
    have hb2 : Bytes r2 := bytes_right (e3 ▸ hb1)
    rcases gt_cases r2 hb2 with e | ⟨b, r3, hb0, hb3, e5, e6⟩
    · rw [e] at h3; exact absurd h3 (by decide)
    rw [e6] at h h5
    simp only [Int.toNat_natCast] at h h5
    rw [e5, List.drop_left] at h
    split at h
    · rename_i ys r he
      split at h
      · rename_i hr
        simp only [Option.some.injEq, Prod.mk.injEq] at h
        obtain ⟨rfl, rfl, rfl⟩ := h
        obtain ⟨i1, i2, i3⟩ := gN_once _ (bytes_right (e5 ▸ hb2)) he
        have hr0 : r = [] := List.eq_nil_of_length_eq_zero hr
        have hbb : b = (ys.length : Int) := by omega
        refine ⟨?_, hc0, hc1, ha0, h4, by omega, i3⟩
        rw [e1, e3, e5, i1, hr0, hbb]
        simp [stB]
      · cases h
    · cases h
  · cases h
theorem gSt_none {l : List Int} (hb : Bytes l) (h : ∀ kind sl xs, StOk kind sl xs → l ≠ stB kind sl xs) : gSt l = none := by
  cases e : gSt l with
  | none => rfl
  | some p =>
    obtain ⟨kind, sl, xs⟩ := p
    obtain ⟨h1, h2⟩ := gSt_once hb e
    exact absurd h1 (h _ _ _ h2)
/-- The answer of DecodeState. -/
def decB (l : List Int) : Int × List Int × Bool × Int × Int := match gSt l with
  | some (kind, sl, xs) => if mayB kind xs (decide (sl > 0)) (if sl - 1 < 0 then 0 else sl - 1) = true then (kind, xs, decide (sl > 0), (if sl - 1 < 0 then 0 else sl - 1), 0) else (0, [], false, 0, 1)
  | none => (0, [], false, 0, 3)
def sealB (sealed : Bool) (eng : Int) : Int := if sealed = true then eng + 1 else 0
/-- The answer of EncodeState. -/
def encB (kind : Int) (l : List Int) (sealed : Bool) (eng : Int) : List Int × Int := if mayB kind l sealed eng = true then (stB kind (sealB sealed eng) l, 0) else ([], 1)
theorem may_ok {kind : Int} {l : List Int} {sealed : Bool} {eng : Int} (hl : ∀ x ∈ l, I64 x) (h : mayB kind l sealed eng = true) : StOk kind (sealB sealed eng) l := by
  obtain ⟨h1, h2, h3, h4, h5, h6⟩ := mayB_facts h
  refine ⟨h4, by omega, ?_, ?_, h6, hl⟩
  · unfold sealB; split <;> omega
  · unfold sealB; split <;> omega
theorem seal_back {kind : Int} {l : List Int} {sealed : Bool} {eng : Int} (h : mayB kind l sealed eng = true) : decide (sealB sealed eng > 0) = sealed ∧ (if sealB sealed eng - 1 < 0 then 0 else sealB sealed eng - 1) = eng := by
  obtain ⟨h1, h2, h3, h4, h5, h6⟩ := mayB_facts h
  unfold sealB
  cases sealed with
  | true => simp only [if_true, decide_eq_true_eq]; rw [if_neg (by omega)]; omega
  | false => have := h3 rfl; subst this; decide
/-- A state's bytes are decoded as it. -/
theorem dec_enc {kind : Int} {l : List Int} {sealed : Bool} {eng : Int} (hl : ∀ x ∈ l, I64 x) (h : mayB kind l sealed eng = true) : decB (stB kind (sealB sealed eng) l) = (kind, l, sealed, eng, 0) := by
  have e := gSt_stB (may_ok hl h) []
  rw [List.append_nil, List.length_nil, if_pos rfl] at e
  obtain ⟨s1, s2⟩ := seal_back h
  unfold decB
  rw [e]
  simp only
  rw [s1, s2, if_pos h]
/-- What is decoded is encoded as just these bytes. -/
theorem enc_dec {l : List Int} (hb : Bytes l) (h : (decB l).2.2.2.2 = 0) : encB (decB l).1 (decB l).2.1 (decB l).2.2.1 (decB l).2.2.2.1 = (l, 0) := by
  unfold decB at h ⊢
  cases e : gSt l with
  | none => rw [e] at h; exact absurd h (by decide)
  | some p =>
    obtain ⟨kind, sl, xs⟩ := p
    rw [e] at h
    simp only at h ⊢
    obtain ⟨h1, h2⟩ := gSt_once hb e
    by_cases hm : mayB kind xs (decide (sl > 0)) (if sl - 1 < 0 then 0 else sl - 1) = true
    · rw [if_pos hm]
      simp only
      unfold encB
      rw [if_pos hm]
      have hs : sealB (decide (sl > 0)) (if sl - 1 < 0 then 0 else sl - 1) = sl := by
        have := h2.s0
        unfold sealB
        by_cases h0 : sl > 0
        · rw [if_pos (decide_eq_true h0), if_neg (by omega)]; omega
        · rw [if_neg (by rw [decide_eq_true_eq]; exact h0)]; omega
      rw [hs, ← h1]
    · rw [if_neg hm] at h; exact absurd h (by decide)
theorem dec_more {kind sl : Int} {l : List Int} (h : StOk kind sl l) {r : List Int} (hr : r ≠ []) : decB (stB kind sl l ++ r) = (0, [], false, 0, 3) := by
  have e := gSt_stB h r
  rw [if_neg (fun e => hr (List.eq_nil_of_length_eq_zero e))] at e
  unfold decB
  rw [e]
theorem dec_cut {kind sl : Int} {l : List Int} (h : StOk kind sl l) (n : Nat) (hn : n < (stB kind sl l).length) : decB ((stB kind sl l).take n) = (0, [], false, 0, 3) := by
  have e : gSt ((stB kind sl l).take n) = none := by
    refine gSt_none (fun c hc => stB_bytes kind sl l c (List.mem_of_mem_take hc)) fun k s xs hok he => ?_
    have h1 : stB k s xs ++ (stB kind sl l).drop n = stB kind sl l ++ [] := by rw [← he, List.take_append_drop, List.append_nil]
    obtain ⟨_, _, _, h2⟩ := stB_front hok h h1
    have h3 := congrArg List.length h2
    rw [List.length_drop] at h3
    simp at h3
    omega
  unfold decB
  rw [e]
theorem dec_i64 {l : List Int} (hb : Bytes l) : (∀ x ∈ (decB l).2.1, I64 x) ∧ I64 (decB l).1 ∧ I64 (decB l).2.2.2.1 ∧ (decB l).2.1.length ≤ 128 := by
  have z : I64 0 := by unfold I64; omega
  unfold decB
  cases e : gSt l with
  | none => exact ⟨by simp, z, z, by simp⟩
  | some p =>
    obtain ⟨kind, sl, xs⟩ := p
    obtain ⟨_, h2⟩ := gSt_once hb e
    have := h2.k0; have := h2.k1; have := h2.s0; have := h2.s1
    have hk : I64 kind := by unfold I64; omega
    have hs : I64 (if sl - 1 < 0 then 0 else sl - 1) := by unfold I64; split <;> omega
    simp only
    by_cases hm : mayB kind xs (decide (sl > 0)) (if sl - 1 < 0 then 0 else sl - 1) = true
    · rw [if_pos hm]; exact ⟨h2.i64, hk, hs, h2.n1⟩
    · rw [if_neg hm]; exact ⟨by simp, z, z, by simp⟩
end Go.Proofs.YtgljebaiakhbfaaGreat.CodecPlain
