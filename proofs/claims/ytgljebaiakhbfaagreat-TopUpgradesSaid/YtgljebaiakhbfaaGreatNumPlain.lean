/- What this text proves: plain facts on groups of seven bits (what is put is read again; what was read is put as the same bytes), on zig and zag, and on fixed bytes; no condition. -/
namespace Go.Proofs.YtgljebaiakhbfaaGreat.NumPlain
/-- The groups of a number, the lowest first. -/
def gr (u : Nat) : List Int := if u < 128 then [(u : Int)] else ((u % 128 + 128 : Nat) : Int) :: gr (u / 128)
theorem gr_small {u : Nat} (h : u < 128) : gr u = [(u : Int)] := by rw [gr, if_pos h]
theorem gr_large {u : Nat} (h : 128 ≤ u) : gr u = ((u % 128 + 128 : Nat) : Int) :: gr (u / 128) := by rw [gr, if_neg (by omega)]
/-- The number of groups that bytes begin with, and how many there are; n: how many more there may be. -/
def rdg : Nat → List Int → Option (Nat × Nat)
  | 0, _ => none
  | _ + 1, [] => none
  | n + 1, c :: l => if n = 0 ∧ c > 1 then none else if c = 0 ∧ n ≠ 9 then none else if c < 128 then some (c.toNat, 1) else
    match rdg n l with
    | some (v, m) => some (c.toNat % 128 + 128 * v, m + 1)
    | none => none
def Bytes (l : List Int) : Prop := ∀ c ∈ l, 0 ≤ c ∧ c ≤ 255
theorem Bytes.tail {c : Int} {l : List Int} (h : Bytes (c :: l)) : Bytes l := fun d hd => h d (List.mem_cons_of_mem _ hd)
theorem Bytes.head {c : Int} {l : List Int} (h : Bytes (c :: l)) : 0 ≤ c ∧ c ≤ 255 := h c List.mem_cons_self
theorem gr_ind {C : Nat → Prop} (h0 : ∀ u, u < 128 → C u) (h1 : ∀ u, 128 ≤ u → C (u / 128) → C u) (u : Nat) : C u := by
  induction u using Nat.strongRecOn with
  | ind u ih =>
    rcases Nat.lt_or_ge u 128 with h | h
    · exact h0 u h
    · exact h1 u h (ih (u / 128) (by omega))
theorem gr_bytes (u : Nat) : Bytes (gr u) := by
  refine gr_ind (C := fun u => Bytes (gr u)) (fun u h => ?_) (fun u h ih => ?_) u
  · rw [gr_small h]; intro c hc; simp only [List.mem_singleton] at hc; omega
  · rw [gr_large h]; intro c hc
    rcases List.mem_cons.1 hc with rfl | hc
    · omega
    · exact ih c hc
theorem gr_pos (u : Nat) : 1 ≤ (gr u).length := by
  rcases Nat.lt_or_ge u 128 with h | h
  · rw [gr_small h]; simp
  · rw [gr_large h]; simp
theorem gr_le : ∀ (n u : Nat), u < 2 ^ (7 * (n + 1)) → (gr u).length ≤ n + 1 := by
  intro n
  induction n with
  | zero => intro u h; rw [gr_small (by simpa using h)]; simp
  | succ n ih =>
    intro u h
    rcases Nat.lt_or_ge u 128 with h1 | h1
    · rw [gr_small h1]; simp
    · rw [gr_large h1, List.length_cons]
      have := ih (u / 128) (by rw [Nat.div_lt_iff_lt_mul (by omega)]; calc u < 2 ^ (7 * (n + 1 + 1)) := h
                              _ = 2 ^ (7 * (n + 1)) * 128 := by rw [show 7 * (n + 1 + 1) = 7 * (n + 1) + 7 by omega, Nat.pow_add])
      omega
theorem rdg_bound : ∀ (n : Nat) (l : List Int) (v m : Nat), Bytes l → rdg (n + 1) l = some (v, m) → v < 2 ^ (7 * n + 1) ∧ 1 ≤ m ∧ m ≤ l.length ∧ m ≤ n + 1 := by
  intro n
  induction n with
  | zero =>
    intro l v m hb h
    cases l with
    | nil => simp [rdg] at h
    | cons c l =>
      simp only [rdg] at h
      have hc := hb.head
      split at h
      · cases h
      · rename_i h1
        have h1' : ¬ c > 1 := fun e => h1 ⟨trivial, e⟩
        split at h
        · cases h
        · rw [if_pos (by omega)] at h
          simp only [Option.some.injEq, Prod.mk.injEq] at h
          obtain ⟨rfl, rfl⟩ := h
          refine ⟨?_, by omega, by simp, by omega⟩
          simp; omega
  | succ n ih =>
    intro l v m hb h
    cases l with
    | nil => simp [rdg] at h
    | cons c l =>
      rw [rdg] at h
      have hc := hb.head
      have hp : 2 ^ (7 * (n + 1) + 1) = 2 ^ (7 * n + 1) * 128 := by rw [show 7 * (n + 1) + 1 = 7 * n + 1 + 7 by omega, Nat.pow_add]
      have hq : 2 ≤ 2 ^ (7 * n + 1) := by have := Nat.pow_le_pow_right (show 0 < 2 by omega) (show 1 ≤ 7 * n + 1 by omega); omega
      rw [if_neg (by omega)] at h
      split at h
      · cases h
      · split at h
        · simp only [Option.some.injEq, Prod.mk.injEq] at h
          obtain ⟨rfl, rfl⟩ := h
          refine ⟨by omega, by omega, by simp, by omega⟩
        · split at h
          · rename_i v' m' he
            simp only [Option.some.injEq, Prod.mk.injEq] at h
            obtain ⟨rfl, rfl⟩ := h
            obtain ⟨h1, h2, h3, h4⟩ := ih l v' m' hb.tail he
            refine ⟨by omega, by omega, by simp; omega, by omega⟩
          · cases h
theorem rdg_nonzero : ∀ (n : Nat) (l : List Int) (v m : Nat), n ≤ 9 → Bytes l → rdg n l = some (v, m) → v ≠ 0 := by
  intro n
  induction n with
  | zero => intro l v m _ _ h; simp [rdg] at h
  | succ n ih =>
    intro l v m hn hb h
    cases l with
    | nil => simp [rdg] at h
    | cons c l =>
      rw [rdg] at h
      have hc := hb.head
      split at h
      · cases h
      · split at h
        · cases h
        · rename_i h2
          have : c ≠ 0 := fun e => h2 ⟨e, by omega⟩
          split at h
          · simp only [Option.some.injEq, Prod.mk.injEq] at h
            omega
          · split at h
            · rename_i v' m' he
              simp only [Option.some.injEq, Prod.mk.injEq] at h
              have := ih l v' m' (by omega) hb.tail he
              omega
            · cases h
/-- What was read is put as just these bytes. -/
theorem rdg_once : ∀ (n : Nat) (l : List Int) (v m : Nat), n ≤ 10 → Bytes l → rdg n l = some (v, m) → gr v = l.take m := by
  intro n
  induction n with
  | zero => intro l v m _ _ h; simp [rdg] at h
  | succ n ih =>
    intro l v m hn hb h
    cases l with
    | nil => simp [rdg] at h
    | cons c l =>
      rw [rdg] at h
      have hc := hb.head
      split at h
      · cases h
      · split at h
        · cases h
        · split at h
          · simp only [Option.some.injEq, Prod.mk.injEq] at h
            obtain ⟨rfl, rfl⟩ := h
            rw [gr_small (by omega)]
            simp; omega
          · split at h
            · rename_i v' m' he
              simp only [Option.some.injEq, Prod.mk.injEq] at h
              obtain ⟨rfl, rfl⟩ := h
              have h0 := rdg_nonzero n l v' m' (by omega) hb.tail he
              rw [gr_large (by omega), List.take_succ_cons, ← ih l v' m' (by omega) hb.tail he]
              congr 1
              · omega
              · congr 1; omega
            · cases h
/-- What was put is read again, whatever stands behind it. -/
theorem rdg_back : ∀ (n u : Nat) (more : List Int), n ≤ 9 → u < 2 ^ (7 * n + 1) → (n ≠ 9 → u ≠ 0) → rdg (n + 1) (gr u ++ more) = some (u, (gr u).length) := by
  intro n
  induction n with
  | zero =>
    intro u more _ hu h0
    have h0 := h0 (by omega)
    have : u = 1 := by simp at hu; omega
    subst this
    rw [gr_small (by omega)]
    simp [rdg]
  | succ n ih =>
    intro u more hn hu h0
    rcases Nat.lt_or_ge u 128 with h | h
    · rw [gr_small h]
      simp only [List.cons_append, rdg]
      rw [if_neg (by omega), if_neg (by omega), if_pos (by omega)]
      simp
    · rw [gr_large h]
      simp only [List.cons_append]
      rw [rdg, if_neg (by omega), if_neg (by omega), if_neg (by omega)]
      have hp : 2 ^ (7 * (n + 1) + 1) = 2 ^ (7 * n + 1) * 128 := by rw [show 7 * (n + 1) + 1 = 7 * n + 1 + 7 by omega, Nat.pow_add]
      rw [ih (u / 128) more (by omega) (by rw [Nat.div_lt_iff_lt_mul (by omega)]; omega) (by omega)]
      simp only [Option.some.injEq, Prod.mk.injEq, List.length_cons, and_true]
      omega
/-- The number that bytes begin with. -/
def rdv (l : List Int) : Nat × Nat := (rdg 10 l).getD (0, 0)
theorem rdv_cases (l : List Int) (hb : Bytes l) : (rdg 10 l = none ∧ rdv l = (0, 0)) ∨ ∃ v m, rdg 10 l = some (v, m) ∧ rdv l = (v, m) ∧ v < 2 ^ 64 ∧ 1 ≤ m ∧ m ≤ l.length ∧ m ≤ 10 ∧ gr v = l.take m := by
  cases h : rdg 10 l with
  | none => exact .inl ⟨rfl, by simp [rdv, h]⟩
  | some p =>
    obtain ⟨v, m⟩ := p
    obtain ⟨h1, h2, h3, h4⟩ := rdg_bound 9 l v m hb h
    exact .inr ⟨v, m, rfl, by simp [rdv, h], h1, h2, h3, h4, rdg_once 10 l v m (by omega) hb h⟩
theorem rdv_back (u : Nat) (more : List Int) (hu : u < 2 ^ 64) : rdv (gr u ++ more) = (u, (gr u).length) := by
  unfold rdv
  rw [rdg_back 9 u more (by omega) hu (by omega)]
  rfl
theorem rdv_lt (l : List Int) (hb : Bytes l) : (rdv l).1 < 2 ^ 64 ∧ (rdv l).2 ≤ l.length ∧ ((rdv l).2 = 0 → (rdv l).1 = 0) := by
  rcases rdv_cases l hb with ⟨_, h⟩ | ⟨v, m, _, h, h1, h2, h3, _⟩
  · rw [h]; exact ⟨by decide, Nat.zero_le _, fun _ => rfl⟩
  · rw [h]; exact ⟨h1, h3, fun e => by simp only at e; omega⟩
/-! ### Zig, Zag -/
def zig (n : Int) : Nat := if 0 ≤ n then (2 * n).toNat else (-2 * n - 1).toNat
def zag (u : Nat) : Int := if u % 2 = 0 then ((u / 2 : Nat) : Int) else -((u / 2 : Nat) : Int) - 1
def I64 (n : Int) : Prop := -9223372036854775808 ≤ n ∧ n ≤ 9223372036854775807
theorem zig_lt {n : Int} (h : I64 n) : zig n < 2 ^ 64 := by unfold I64 at h; unfold zig; split <;> omega
theorem zag_zig (n : Int) : zag (zig n) = n := by
  unfold zag zig
  by_cases h : 0 ≤ n
  · rw [if_pos h, if_pos (by omega)]; omega
  · rw [if_neg h, if_neg (by omega)]; omega
theorem zig_zag (u : Nat) : zig (zag u) = u := by
  unfold zag
  by_cases h : u % 2 = 0
  · rw [if_pos h]; unfold zig; rw [if_pos (by omega)]; omega
  · rw [if_neg h]; unfold zig; rw [if_neg (by omega)]; omega
theorem zag_i64 {u : Nat} (h : u < 2 ^ 64) : I64 (zag u) := by unfold I64 zag; split <;> omega
/-! ### Fixed -/
def fx : Nat → Nat → List Int
  | 0, _ => []
  | s + 1, n => ((n % 256 : Nat) : Int) :: fx s (n / 256)
/-- What Put puts. -/
def pt (n : Int) : List Int := if 0 ≤ n ∧ n < 4611686018427387904 then gr n.toNat else []
def pS (n : Int) : List Int := gr (zig n)
/-- What Get gets. -/
def gt (l : List Int) : Int × Int := if (rdv l).1 < 4611686018427387904 then (((rdv l).1 : Int), ((rdv l).2 : Int)) else (0, 0)
def gS (l : List Int) : Int × Int := if (rdv l).2 = 0 then (0, 0) else (zag (rdv l).1, ((rdv l).2 : Int))
theorem pt_bytes (n : Int) : Bytes (pt n) := by unfold pt; split; exact gr_bytes _; intro c hc; cases hc
theorem pS_bytes (n : Int) : Bytes (pS n) := gr_bytes _
theorem pt_len (n : Int) : (pt n).length ≤ 9 := by
  unfold pt; split
  · exact gr_le 8 _ (by omega)
  · simp
theorem pS_len {n : Int} (h : I64 n) : (pS n).length ≤ 10 := gr_le 9 _ (by have := zig_lt h; omega)
theorem gt_pt {n : Int} (h0 : 0 ≤ n) (h1 : n < 4611686018427387904) (more : List Int) : gt (pt n ++ more) = (n, ((pt n).length : Int)) := by
  have hp : pt n = gr n.toNat := by unfold pt; rw [if_pos ⟨h0, h1⟩]
  rw [hp]
  unfold gt
  rw [rdv_back _ _ (by omega)]
  simp only
  rw [if_pos (by omega)]
  congr 1
  omega
theorem gS_pS {n : Int} (h : I64 n) (more : List Int) : gS (pS n ++ more) = (n, ((pS n).length : Int)) := by
  unfold pS gS
  rw [rdv_back _ _ (zig_lt h)]
  simp only
  rw [if_neg (by have := gr_pos (zig n); omega), zag_zig]
/-- What was got is put as just the bytes that it took. -/
theorem gt_once (l : List Int) (hb : Bytes l) : (gt l).2 = 0 ∧ (gt l).1 = 0 ∨ 1 ≤ (gt l).2 ∧ (gt l).2 ≤ l.length ∧ 0 ≤ (gt l).1 ∧ (gt l).1 < 4611686018427387904 ∧ pt (gt l).1 = l.take (gt l).2.toNat := by
  unfold gt
  rcases rdv_cases l hb with ⟨_, h⟩ | ⟨v, m, _, h, h1, h2, h3, h4, h5⟩
  · rw [h]; exact .inl ⟨rfl, rfl⟩
  · rw [h]
    simp only
    by_cases hv : v < 4611686018427387904
    · rw [if_pos hv]
      refine .inr ⟨by simp only; omega, by simp only; omega, by simp only; omega, by simp only; omega, ?_⟩
      unfold pt
      rw [if_pos (by simp only; omega)]
      simp only [Int.toNat_natCast]
      exact h5
    · rw [if_neg hv]; exact .inl ⟨rfl, rfl⟩
theorem gS_once (l : List Int) (hb : Bytes l) : (gS l).2 = 0 ∧ (gS l).1 = 0 ∨ 1 ≤ (gS l).2 ∧ (gS l).2 ≤ l.length ∧ I64 (gS l).1 ∧ pS (gS l).1 = l.take (gS l).2.toNat := by
  unfold gS
  rcases rdv_cases l hb with ⟨_, h⟩ | ⟨v, m, _, h, h1, h2, h3, h4, h5⟩
  · rw [h]; exact .inl ⟨rfl, rfl⟩
  · rw [h]
    simp only
    rw [if_neg (by omega)]
    refine .inr ⟨by simp only; omega, by simp only; omega, zag_i64 h1, ?_⟩
    unfold pS
    simp only [Int.toNat_natCast]
    rw [zig_zag]
    exact h5
end Go.Proofs.YtgljebaiakhbfaaGreat.NumPlain
