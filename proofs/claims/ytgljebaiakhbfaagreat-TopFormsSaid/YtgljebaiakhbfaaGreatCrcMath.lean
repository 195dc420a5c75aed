/- What this text proves: plain facts on the checksum of bytes: it is linear, one byte at a time can be taken back, turned bits show; no condition. -/
namespace Go.Proofs.YtgljebaiakhbfaaGreat.CrcMath
def P : BitVec 32 := 0x82f63b78#32
/-- One bit of the division. -/
def z (s : BitVec 32) : BitVec 32 := (s >>> 1) ^^^ (if s.getLsbD 0 then P else 0#32)
def zn : Nat → BitVec 32 → BitVec 32
  | 0, s => s
  | n + 1, s => zn n (z s)
theorem z_xor (a b : BitVec 32) : z (a ^^^ b) = z a ^^^ z b := by
  unfold z
  rw [BitVec.ushiftRight_xor_distrib, BitVec.getLsbD_xor]
  apply BitVec.eq_of_getLsbD_eq
  intro i hi
  simp only [BitVec.getLsbD_xor]
  cases a.getLsbD 0 <;> cases b.getLsbD 0 <;> simp [Bool.xor_comm, Bool.xor_left_comm]
theorem zn_xor (n : Nat) : ∀ a b : BitVec 32, zn n (a ^^^ b) = zn n a ^^^ zn n b := by
  induction n with
  | zero => intro a b; rfl
  | succ n ih => intro a b; simp only [zn]; rw [z_xor, ih]
theorem z_zero : z 0#32 = 0#32 := by decide
theorem zn_zero (n : Nat) : zn n 0#32 = 0#32 := by
  induction n with
  | zero => rfl
  | succ n ih => simp only [zn]; rw [z_zero, ih]
theorem z_eq_zero {s : BitVec 32} (h : z s = 0#32) : s = 0#32 := by
  have h31 : (z s).getLsbD 31 = s.getLsbD 0 := by
    unfold z
    rw [BitVec.getLsbD_xor, BitVec.getLsbD_ushiftRight]
    have : s.getLsbD (1 + 31) = false := BitVec.getLsbD_of_ge _ _ (by omega)
    rw [this]
    cases s.getLsbD 0 <;> decide
  have h0 : s.getLsbD 0 = false := by rw [← h31, h]; decide
  have h2 : z s = s >>> 1 := by unfold z; rw [h0]; simp
  rw [h2] at h
  apply BitVec.eq_of_getLsbD_eq
  intro i hi
  cases i with
  | zero => rw [h0]; rfl
  | succ i =>
    have : (s >>> 1).getLsbD i = s.getLsbD (1 + i) := BitVec.getLsbD_ushiftRight ..
    rw [h] at this
    rw [Nat.add_comm i 1, ← this]; simp
theorem zn_eq_zero (n : Nat) : ∀ {s : BitVec 32}, zn n s = 0#32 → s = 0#32 := by
  induction n with
  | zero => intro s h; exact h
  | succ n ih => intro s h; exact z_eq_zero (ih h)
theorem xor_eq_zero {a b : BitVec 32} (h : a ^^^ b = 0#32) : a = b := by
  have := congrArg (· ^^^ b) h
  simpa [BitVec.xor_assoc] using this
theorem zn_inj (n : Nat) {a b : BitVec 32} (h : zn n a = zn n b) : a = b := by
  apply xor_eq_zero
  apply zn_eq_zero n
  rw [zn_xor, h, BitVec.xor_self]
theorem zn_succ (n : Nat) : ∀ s : BitVec 32, zn (n + 1) s = z (zn n s) := by
  induction n with
  | zero => intro s; rfl
  | succ n ih => intro s; rw [show zn (n + 1 + 1) s = zn (n + 1) (z s) from rfl, ih]; rfl
/-- A byte, and a byte put into the state. -/
def step (s : BitVec 32) (c : Int) : BitVec 32 := zn 8 (s ^^^ BitVec.ofInt 32 c)
def run : BitVec 32 → List Int → BitVec 32
  | s, [] => s
  | s, c :: l => run (step s c) l
def more (sum : BitVec 32) (l : List Int) : BitVec 32 := ~~~ (run (~~~ sum) l)
theorem run_append (s : BitVec 32) (a b : List Int) : run s (a ++ b) = run (run s a) b := by
  induction a generalizing s with
  | nil => rfl
  | cons c a ih => simp only [List.cons_append, run]; exact ih _
theorem more_append (s : BitVec 32) (a b : List Int) : more (more s a) b = more s (a ++ b) := by
  unfold more; rw [BitVec.not_not, run_append]
theorem more_nil (s : BitVec 32) : more s [] = s := by unfold more; simp [run]
theorem step_inj {s t : BitVec 32} {c : Int} (h : step s c = step t c) : s = t := by
  have := zn_inj 8 h
  have h2 := congrArg (· ^^^ BitVec.ofInt 32 c) this
  simpa [BitVec.xor_assoc] using h2
theorem run_inj (l : List Int) : ∀ {s t : BitVec 32}, run s l = run t l → s = t := by
  induction l with
  | nil => intro s t h; exact h
  | cons c l ih => intro s t h; exact step_inj (ih h)
theorem not_inj {s t : BitVec 32} (h : ~~~ s = ~~~ t) : s = t := by
  have := congrArg (~~~ ·) h; simpa using this
theorem more_inj {s t : BitVec 32} {l : List Int} (h : more s l = more t l) : s = t := not_inj (run_inj l (not_inj h))
/-- Bytes. -/
def Byte (c : Int) : Prop := 0 ≤ c ∧ c ≤ 255
def Bytes (l : List Int) : Prop := ∀ c ∈ l, Byte c
theorem ofInt_inj {c d : Int} (hc : Byte c) (hd : Byte d) (h : BitVec.ofInt 32 c = BitVec.ofInt 32 d) : c = d := by
  have := congrArg BitVec.toNat h
  simp only [BitVec.toNat_ofInt] at this
  unfold Byte at hc hd
  omega
theorem more_last {s : BitVec 32} {l : List Int} {x y : Int} (hx : Byte x) (hy : Byte y) (h : more s (l ++ [x]) = more s (l ++ [y])) : x = y := by
  have h2 := not_inj h
  rw [run_append, run_append] at h2
  have h3 := zn_inj 8 h2
  have h4 := congrArg (run (~~~ s) l ^^^ ·) h3
  simp only [← BitVec.xor_assoc, BitVec.xor_self, BitVec.zero_xor] at h4
  exact ofInt_inj hx hy h4
/-- The exclusive or of two bytes. -/
def bx (c d : Int) : Int := ((BitVec.ofInt 8 c ^^^ BitVec.ofInt 8 d).toNat : Int)
theorem bx_byte (c d : Int) : Byte (bx c d) := by
  unfold bx Byte
  have := (BitVec.ofInt 8 c ^^^ BitVec.ofInt 8 d).isLt
  omega
theorem ofInt_byte {c : Int} (h : Byte c) : BitVec.ofInt 32 c = (BitVec.ofInt 8 c).setWidth 32 := by
  apply BitVec.eq_of_toNat_eq
  simp only [BitVec.toNat_ofInt, BitVec.toNat_setWidth]
  unfold Byte at h
  omega
theorem ofInt_bx {c d : Int} (hc : Byte c) (hd : Byte d) : BitVec.ofInt 32 (bx c d) = BitVec.ofInt 32 c ^^^ BitVec.ofInt 32 d := by
  rw [ofInt_byte hc, ofInt_byte hd, ← BitVec.setWidth_xor]
  unfold bx
  apply BitVec.eq_of_toNat_eq
  simp only [BitVec.toNat_ofInt, BitVec.toNat_setWidth]
  have := (BitVec.ofInt 8 c ^^^ BitVec.ofInt 8 d).isLt
  omega
theorem ofInt_of8 (b : BitVec 8) : BitVec.ofInt 8 (b.toNat : Int) = b := by
  apply BitVec.eq_of_toNat_eq
  simp only [BitVec.toNat_ofInt]
  have := b.isLt
  omega
theorem bx_self (c : Int) : bx c c = 0 := by unfold bx; rw [BitVec.xor_self]; rfl
theorem bx_cancel {c d : Int} (hd : Byte d) : bx c (bx c d) = d := by
  unfold bx
  rw [ofInt_of8, ← BitVec.xor_assoc, BitVec.xor_self, BitVec.zero_xor, BitVec.toNat_ofInt]
  unfold Byte at hd
  omega
theorem run_xor (a b : List Int) (ha : Bytes a) (hb : Bytes b) (hl : a.length = b.length) : ∀ s t : BitVec 32, run (s ^^^ t) (List.zipWith bx a b) = run s a ^^^ run t b := by
  induction a generalizing b with
  | nil => intro s t; cases b with
    | nil => rfl
    | cons _ _ => simp at hl
  | cons c a ih => cases b with
    | nil => simp at hl
    | cons d b =>
      intro s t
      simp only [List.zipWith_cons_cons, run]
      rw [← ih b (fun c h => ha c (List.mem_cons_of_mem _ h)) (fun c h => hb c (List.mem_cons_of_mem _ h)) (by simpa using hl)]
      congr 1
      unfold step
      rw [ofInt_bx (ha _ List.mem_cons_self) (hb _ List.mem_cons_self), ← zn_xor]
      congr 1
      ac_rfl
theorem zip_self (b : List Int) : List.zipWith bx b b = List.replicate b.length 0 := by
  induction b with
  | nil => rfl
  | cons c b ih => rw [List.zipWith_cons_cons, ih, bx_self]; rfl
theorem more_linear (a b : List Int) (ha : Bytes a) (hb : Bytes b) (hl : a.length = b.length) : more 0#32 (List.zipWith bx a b) = more 0#32 a ^^^ more 0#32 b ^^^ more 0#32 (List.replicate a.length 0) := by
  have h0 : Bytes (List.replicate a.length 0) := fun c hc => by rw [List.eq_of_mem_replicate hc]; exact ⟨by decide, by decide⟩
  have e : run (~~~ 0#32) (List.zipWith bx a b) = run (~~~ 0#32) a ^^^ run (~~~ 0#32) b ^^^ run (~~~ 0#32) (List.replicate a.length 0) := by
    have h1 : run (~~~ 0#32 ^^^ ~~~ 0#32) (List.zipWith bx a b) = run (~~~ 0#32) a ^^^ run (~~~ 0#32) b := run_xor a b ha hb hl _ _
    rw [← h1]
    have hz : Bytes (List.zipWith bx a b) := by
      intro c hc
      obtain ⟨i, hi, rfl⟩ := List.mem_iff_getElem.1 hc
      rw [List.getElem_zipWith]
      exact bx_byte _ _
    rw [← run_xor _ _ hz h0 (by simp [hl])]
    have e2 : List.zipWith bx (List.zipWith bx a b) (List.replicate a.length 0) = List.zipWith bx a b := by
      apply List.ext_getElem (by simp [hl])
      intro i h1 h2
      rw [List.getElem_zipWith, List.getElem_replicate, List.getElem_zipWith]
      unfold bx
      rw [ofInt_of8, show BitVec.ofInt 8 0 = 0#8 from rfl, BitVec.xor_zero]
    rw [e2, BitVec.xor_self, BitVec.zero_xor]
  unfold more
  rw [e]
  have key : ∀ x y w : BitVec 32, ~~~ (x ^^^ y ^^^ w) = ~~~ x ^^^ ~~~ y ^^^ ~~~ w := by
    intro x y w
    apply BitVec.eq_of_getLsbD_eq
    intro i hi
    simp only [BitVec.getLsbD_not, BitVec.getLsbD_xor, hi, decide_true, Bool.true_and]
    cases x.getLsbD i <;> cases y.getLsbD i <;> cases w.getLsbD i <;> rfl
  exact key _ _ _
/-- Two texts of one length: the same sum just where the difference leads from 0 to 0. -/
theorem more_diff (s : BitVec 32) (a b : List Int) (ha : Bytes a) (hb : Bytes b) (hl : a.length = b.length) : more s a = more s b ↔ run 0#32 (List.zipWith bx a b) = 0#32 := by
  have h := run_xor a b ha hb hl (~~~ s) (~~~ s)
  rw [BitVec.xor_self] at h
  rw [h]
  constructor
  · intro e; rw [not_inj e, BitVec.xor_self]
  · intro e; unfold more; rw [xor_eq_zero e]
/-! ### Parity -/
def par : Nat → BitVec 32 → Bool
  | 0, _ => false
  | n + 1, s => par n s ^^ s.getLsbD n
theorem par_xor (n : Nat) (a b : BitVec 32) : par n (a ^^^ b) = (par n a ^^ par n b) := by
  induction n with
  | zero => rfl
  | succ n ih => simp only [par, ih, BitVec.getLsbD_xor]; cases par n a <;> cases par n b <;> cases a.getLsbD n <;> cases b.getLsbD n <;> rfl
theorem par_shift (n : Nat) (s : BitVec 32) : par n (s >>> 1) = (par (n + 1) s ^^ s.getLsbD 0) := by
  induction n with
  | zero => simp [par]
  | succ n ih =>
    rw [show par (n + 1) (s >>> 1) = (par n (s >>> 1) ^^ (s >>> 1).getLsbD n) from rfl, ih, BitVec.getLsbD_ushiftRight, Nat.add_comm 1 n,
      show par (n + 1 + 1) s = (par (n + 1) s ^^ s.getLsbD (n + 1)) from rfl]
    cases par (n + 1) s <;> cases s.getLsbD 0 <;> cases s.getLsbD (n + 1) <;> rfl
theorem par_z (s : BitVec 32) : par 32 (z s) = par 32 s := by
  unfold z
  rw [par_xor, par_shift, show par (32 + 1) s = (par 32 s ^^ s.getLsbD 32) from rfl, BitVec.getLsbD_of_ge s 32 (by omega)]
  cases s.getLsbD 0
  · rw [show par 32 (if false = true then P else 0#32) = false from by decide]; cases par 32 s <;> rfl
  · rw [show par 32 (if true = true then P else 0#32) = true from by decide]; cases par 32 s <;> rfl
theorem par_zn (n : Nat) : ∀ s : BitVec 32, par 32 (zn n s) = par 32 s := by
  induction n with
  | zero => intro s; rfl
  | succ n ih => intro s; rw [show zn (n + 1) s = zn n (z s) from rfl, ih, par_z]
def parL : List Int → Bool
  | [] => false
  | c :: l => par 32 (BitVec.ofInt 32 c) ^^ parL l
theorem par_run (l : List Int) : ∀ s : BitVec 32, par 32 (run s l) = (par 32 s ^^ parL l) := by
  induction l with
  | nil => intro s; simp [run, parL]
  | cons c l ih => intro s; rw [run, ih, show parL (c :: l) = (par 32 (BitVec.ofInt 32 c) ^^ parL l) from rfl]; unfold step; rw [par_zn, par_xor, Bool.xor_assoc]
/-- One bit of one byte turned. -/
def flip (l : List Int) (k : Nat) : List Int := l.set (k / 8) (bx (l.getD (k / 8) 0) ((1 <<< (k % 8) : Nat) : Int))
theorem flip_length (l : List Int) (k : Nat) : (flip l k).length = l.length := by simp [flip]
theorem Bytes.set {l : List Int} (h : Bytes l) (i : Nat) {x : Int} (hx : Byte x) : Bytes (l.set i x) := by
  intro c hc
  rcases List.mem_or_eq_of_mem_set hc with h1 | h1
  · exact h c h1
  · rw [h1]; exact hx
theorem flip_bytes {l : List Int} (h : Bytes l) (k : Nat) : Bytes (flip l k) := h.set _ (bx_byte _ _)
theorem one_byte (j : Nat) (hj : j < 8) : Byte ((1 <<< j : Nat) : Int) := by
  have : ∀ j : Fin 8, 0 ≤ ((1 <<< j.val : Nat) : Int) ∧ ((1 <<< j.val : Nat) : Int) ≤ 255 := by decide
  exact this ⟨j, hj⟩
theorem par_one (j : Nat) (hj : j < 8) : par 32 (BitVec.ofInt 32 ((1 <<< j : Nat) : Int)) = true := by
  have : ∀ j : Fin 8, par 32 (BitVec.ofInt 32 ((1 <<< j.val : Nat) : Int)) = true := by decide
  exact this ⟨j, hj⟩
theorem getD_byte {l : List Int} (h : Bytes l) (i : Nat) : Byte (l.getD i 0) := by
  rw [List.getD_eq_getElem?_getD]
  rcases Nat.lt_or_ge i l.length with hi | hi
  · rw [List.getElem?_eq_getElem hi]; exact h _ (List.getElem_mem hi)
  · rw [List.getElem?_eq_none hi]; exact ⟨by decide, by decide⟩
theorem parL_set (l : List Int) : ∀ (i : Nat) (x : Int), i < l.length → parL (l.set i x) = (parL l ^^ (par 32 (BitVec.ofInt 32 (l.getD i 0)) ^^ par 32 (BitVec.ofInt 32 x))) := by
  induction l with
  | nil => intro i x h; simp at h
  | cons c l ih =>
    intro i x h
    cases i with
    | zero => simp only [List.set_cons_zero, parL, List.getD_cons_zero]; cases par 32 (BitVec.ofInt 32 c) <;> cases par 32 (BitVec.ofInt 32 x) <;> cases parL l <;> rfl
    | succ i => simp only [List.set_cons_succ, parL, List.getD_cons_succ]; rw [ih i x (by simpa using h), Bool.xor_assoc]
theorem parL_flip {l : List Int} (h : Bytes l) {k : Nat} (hk : k < 8 * l.length) : parL (flip l k) = !parL l := by
  unfold flip
  rw [parL_set l _ _ (by omega), ofInt_bx (getD_byte h _) (one_byte _ (Nat.mod_lt _ (by omega))), par_xor, par_one _ (Nat.mod_lt _ (by omega))]
  cases par 32 (BitVec.ofInt 32 (l.getD (k / 8) 0)) <;> cases parL l <;> rfl
/-- An odd number of turned bits: another sum. -/
theorem more_odd {s : BitVec 32} {a b : List Int} (h : parL b = !parL a) : more s a ≠ more s b := by
  intro e
  have := congrArg (par 32) (not_inj e)
  rw [par_run, par_run, h] at this
  cases par 32 (~~~ s) <;> cases parL a <;> simp_all
/-! ### Bursts -/
/-- Bits fed one by one. -/
def feed (f : Nat → Bool) : Nat → BitVec 32
  | 0 => 0#32
  | n + 1 => z (feed f n ^^^ (if f n then 1#32 else 0#32))
def bitv (b : Bool) : BitVec 32 := if b then 1#32 else 0#32
theorem zn_add (m n : Nat) : ∀ s : BitVec 32, zn (m + n) s = zn n (zn m s) := by
  induction m with
  | zero => intro s; rw [Nat.zero_add]; rfl
  | succ m ih => intro s; rw [Nat.succ_add]; simp only [zn]; exact ih _
theorem zn_pow (j : Nat) (hj : j < 32) : zn j ((1#32) <<< j) = 1#32 := by
  have : ∀ j : Fin 32, zn j.val ((1#32) <<< j.val) = 1#32 := by decide
  exact this ⟨j, hj⟩
/-- The bits of a window as a number. -/
def win (f : Nat → Bool) (at_ : Nat) : Nat → BitVec 32
  | 0 => 0#32
  | t + 1 => win f at_ t ^^^ (bitv (f (at_ + t))) <<< t
theorem bitv_shift (b : Bool) (j : Nat) (hj : j < 32) : zn j (bitv b <<< j) = bitv b := by
  cases b
  · simp only [bitv, Bool.false_eq_true, if_false, BitVec.zero_shiftLeft]; exact zn_zero j
  · simp only [bitv, if_true]; exact zn_pow j hj
theorem feed_win (f : Nat → Bool) (at_ : Nat) (h0 : feed f at_ = 0#32) : ∀ t, t ≤ 32 → feed f (at_ + t) = zn t (win f at_ t) := by
  intro t
  induction t with
  | zero => intro _; rw [Nat.add_zero, h0]; rfl
  | succ t ih =>
    intro ht
    rw [show at_ + (t + 1) = (at_ + t) + 1 from rfl, show feed f (at_ + t + 1) = z (feed f (at_ + t) ^^^ bitv (f (at_ + t))) from rfl, ih (by omega), zn_add t 1, show win f at_ (t + 1) = win f at_ t ^^^ (bitv (f (at_ + t))) <<< t from rfl, zn_xor, bitv_shift _ _ (by omega)]
    rfl
theorem win_bit (f : Nat → Bool) (at_ t : Nat) (ht : t ≤ 32) : ∀ i, (win f at_ t).getLsbD i = (decide (i < t) && f (at_ + i)) := by
  induction t with
  | zero => intro i; simp [win]
  | succ t ih =>
    intro i
    rw [show win f at_ (t + 1) = win f at_ t ^^^ (bitv (f (at_ + t))) <<< t from rfl, BitVec.getLsbD_xor, ih (by omega), BitVec.getLsbD_shiftLeft]
    rcases Nat.lt_trichotomy i t with h | h | h
    · simp [h, show i < t + 1 by omega]
    · subst h
      cases hf : f (at_ + i) <;> simp [bitv, show i < 32 by omega]
    · have h1 : ¬ i < t := by omega
      have h2 : ¬ i < t + 1 := by omega
      have h3 : (bitv (f (at_ + t))).getLsbD (i - t) = false := by
        cases f (at_ + t)
        · simp [bitv]
        · simp only [bitv, if_true]
          rw [show i - t = (i - t - 1) + 1 by omega]
          simp
      simp [h1, h2, h3]
theorem win_zero (f : Nat → Bool) (at_ t : Nat) (ht : t ≤ 32) : win f at_ t = 0#32 ↔ ∀ i, i < t → f (at_ + i) = false := by
  constructor
  · intro h i hi
    have := win_bit f at_ t ht i
    rw [h] at this
    simpa [hi] using this.symm
  · intro h
    apply BitVec.eq_of_getLsbD_eq
    intro i _
    rw [win_bit f at_ t ht i]
    by_cases hi : i < t
    · simp [h i hi]
    · simp [hi]
theorem feed_ahead (f : Nat → Bool) : ∀ n, (∀ i, i < n → f i = false) → feed f n = 0#32 := by
  intro n
  induction n with
  | zero => intro _; rfl
  | succ n ih =>
    intro h
    rw [show feed f (n + 1) = z (feed f n ^^^ bitv (f n)) from rfl, ih (fun i hi => h i (by omega)), h n (by omega)]
    exact z_zero
theorem feed_behind (f : Nat → Bool) (m : Nat) : ∀ t, (∀ i, m ≤ i → f i = false) → feed f (m + t) = zn t (feed f m) := by
  intro t
  induction t with
  | zero => intro _; rfl
  | succ t ih =>
    intro h
    rw [show m + (t + 1) = (m + t) + 1 from rfl, show feed f (m + t + 1) = z (feed f (m + t) ^^^ bitv (f (m + t))) from rfl, ih h, h (m + t) (by omega), zn_add t 1]
    show z (zn t (feed f m) ^^^ 0#32) = _
    rw [BitVec.xor_zero]; rfl
/-- Bits within a window of 32: nought just where there is none. -/
theorem feed_burst (f : Nat → Bool) (n at_ : Nat) (h1 : ∀ i, i < at_ → f i = false) (h2 : ∀ i, at_ + 32 ≤ i → f i = false) (hn : at_ ≤ n) : feed f n = 0#32 ↔ ∀ i, i < n → f i = false := by
  constructor
  · intro h
    rcases Nat.lt_or_ge n (at_ + 32) with hlt | hge
    · have h3 := feed_win f at_ (feed_ahead f at_ h1) (n - at_) (by omega)
      rw [show at_ + (n - at_) = n by omega, h] at h3
      have h4 := (win_zero f at_ (n - at_) (by omega)).1 (zn_eq_zero _ h3.symm)
      intro i hi
      rcases Nat.lt_or_ge i at_ with h5 | h5
      · exact h1 i h5
      · have := h4 (i - at_) (by omega)
        rwa [show at_ + (i - at_) = i by omega] at this
    · have h3 := feed_win f at_ (feed_ahead f at_ h1) 32 (by omega)
      have h5 := feed_behind f (at_ + 32) (n - (at_ + 32)) h2
      rw [show at_ + 32 + (n - (at_ + 32)) = n by omega, h, h3] at h5
      have h4 := (win_zero f at_ 32 (by omega)).1 (zn_eq_zero _ (zn_eq_zero _ h5.symm))
      intro i hi
      rcases Nat.lt_or_ge i at_ with h6 | h6
      · exact h1 i h6
      · rcases Nat.lt_or_ge i (at_ + 32) with h7 | h7
        · have := h4 (i - at_) (by omega)
          rwa [show at_ + (i - at_) = i by omega] at this
        · exact h2 i h7
  · exact fun h => feed_ahead f n h
/-- Bit k of bytes. -/
def bitOf (l : List Int) (k : Nat) : Bool := (BitVec.ofInt 8 (l.getD (k / 8) 0)).getLsbD (k % 8)
def bits8 (c : BitVec 8) (j : Nat) : BitVec 32 := bitv (c.getLsbD j)
theorem byte_sum (c : BitVec 8) : c.setWidth 32 = bits8 c 0 ^^^ (bits8 c 1) <<< 1 ^^^ (bits8 c 2) <<< 2 ^^^ (bits8 c 3) <<< 3 ^^^ (bits8 c 4) <<< 4 ^^^ (bits8 c 5) <<< 5 ^^^ (bits8 c 6) <<< 6 ^^^ (bits8 c 7) <<< 7 := by
  have : ∀ c : Fin 256, (BitVec.ofFin (w := 8) c).setWidth 32 = bits8 (BitVec.ofFin c) 0 ^^^ (bits8 (BitVec.ofFin c) 1) <<< 1 ^^^ (bits8 (BitVec.ofFin c) 2) <<< 2 ^^^ (bits8 (BitVec.ofFin c) 3) <<< 3 ^^^ (bits8 (BitVec.ofFin c) 4) <<< 4 ^^^ (bits8 (BitVec.ofFin c) 5) <<< 5 ^^^ (bits8 (BitVec.ofFin c) 6) <<< 6 ^^^ (bits8 (BitVec.ofFin c) 7) <<< 7 := by decide +kernel
  exact this c.toFin
theorem byte_feed (s : BitVec 32) (c : BitVec 8) : zn 8 (s ^^^ c.setWidth 32) =
    z (z (z (z (z (z (z (z (s ^^^ bits8 c 0) ^^^ bits8 c 1) ^^^ bits8 c 2) ^^^ bits8 c 3) ^^^ bits8 c 4) ^^^ bits8 c 5) ^^^ bits8 c 6) ^^^ bits8 c 7) := by
  have e : ∀ (j : Nat), j < 32 → ∀ t, z (zn j t ^^^ bits8 c j) = zn (j + 1) (t ^^^ bits8 c j <<< j) := by
    intro j hj t
    rw [zn_add j 1, zn_xor, show zn j (bits8 c j <<< j) = bits8 c j from bitv_shift _ j hj]; rfl
  rw [byte_sum]
  have e0 := e 0 (by omega)
  have e1 := e 1 (by omega)
  have e2 := e 2 (by omega)
  have e3 := e 3 (by omega)
  have e4 := e 4 (by omega)
  have e5 := e 5 (by omega)
  have e6 := e 6 (by omega)
  have e7 := e 7 (by omega)
  rw [show s ^^^ bits8 c 0 = zn 0 s ^^^ bits8 c 0 from rfl, e0, e1, e2, e3, e4, e5, e6, e7]
  congr 1
  rw [BitVec.shiftLeft_zero]
  simp only [BitVec.xor_assoc]
theorem run_feed (l : List Int) (hl : Bytes l) : ∀ n, n ≤ l.length → run 0#32 (l.take n) = feed (bitOf l) (8 * n) := by
  intro n
  induction n with
  | zero => intro _; rfl
  | succ n ih =>
    intro hn
    rw [List.take_succ_eq_append_getElem (by omega), run_append, ih (by omega)]
    show step _ _ = _
    unfold step
    rw [ofInt_byte (hl _ (List.getElem_mem _)), byte_feed]
    have hb : ∀ j, j < 8 → bitv (bitOf l (8 * n + j)) = bits8 (BitVec.ofInt 8 l[n]) j := by
      intro j hj
      unfold bitOf bits8
      rw [show (8 * n + j) / 8 = n by omega, show (8 * n + j) % 8 = j by omega, List.getD_eq_getElem?_getD, List.getElem?_eq_getElem (by omega)]
      rfl
    rw [← hb 0 (by omega), ← hb 1 (by omega), ← hb 2 (by omega), ← hb 3 (by omega), ← hb 4 (by omega), ← hb 5 (by omega), ← hb 6 (by omega), ← hb 7 (by omega)]
    rfl
theorem run_bits (l : List Int) (hl : Bytes l) : run 0#32 l = feed (bitOf l) (8 * l.length) := by
  have := run_feed l hl l.length (Nat.le_refl _)
  rwa [List.take_length] at this
theorem bx_bit (c d : Int) (j : Nat) : (BitVec.ofInt 8 (bx c d)).getLsbD j = ((BitVec.ofInt 8 c).getLsbD j ^^ (BitVec.ofInt 8 d).getLsbD j) := by
  unfold bx
  rw [ofInt_of8, BitVec.getLsbD_xor]
theorem zip_bit (a b : List Int) (hl : a.length = b.length) (k : Nat) : bitOf (List.zipWith bx a b) k = (bitOf a k ^^ bitOf b k) := by
  unfold bitOf
  simp only [List.getD_eq_getElem?_getD]
  rcases Nat.lt_or_ge (k / 8) a.length with h | h
  · rw [List.getElem?_eq_getElem (by simp; omega), List.getElem?_eq_getElem h, List.getElem?_eq_getElem (by omega)]
    simp only [Option.getD_some, List.getElem_zipWith]
    exact bx_bit _ _ _
  · rw [List.getElem?_eq_none (by simp; omega), List.getElem?_eq_none (by omega), List.getElem?_eq_none (by omega)]
    simp
theorem one_bit (j i : Nat) (hj : j < 8) (hi : i < 8) : (BitVec.ofInt 8 ((1 <<< j : Nat) : Int)).getLsbD i = decide (i = j) := by
  have : ∀ j i : Fin 8, (BitVec.ofInt 8 ((1 <<< j.val : Nat) : Int)).getLsbD i.val = decide (i.val = j.val) := by decide
  exact this ⟨j, hj⟩ ⟨i, hi⟩
theorem flip_bit (l : List Int) {k : Nat} (hk : k < 8 * l.length) (m : Nat) : bitOf (flip l k) m = (bitOf l m ^^ decide (m = k)) := by
  unfold bitOf flip
  simp only [List.getD_eq_getElem?_getD]
  by_cases h : m / 8 = k / 8
  · rw [← h, List.getElem?_set_self (by omega)]
    simp only [Option.getD_some]
    rw [bx_bit, one_bit _ _ (Nat.mod_lt _ (by omega)) (Nat.mod_lt _ (by omega)), h]
    congr 1
    simp only [decide_eq_decide]
    omega
  · rw [List.getElem?_set_ne (Ne.symm h)]
    have : ¬ m = k := fun e => h (by rw [e])
    simp [this]
/-- The turned bits of the burst, round by round. -/
def burst (b : List Int) (at_ : Nat) (w : BitVec 32) : Nat → List Int
  | 0 => b
  | i + 1 => if w.getLsbD i && decide (at_ + i < 8 * b.length) then flip (burst b at_ w i) (at_ + i) else burst b at_ w i
def turned (n at_ : Nat) (w : BitVec 32) : Nat → Bool
  | 0 => false
  | i + 1 => (w.getLsbD i && decide (at_ + i < n)) || turned n at_ w i
theorem burst_length (b : List Int) (at_ : Nat) (w : BitVec 32) (i : Nat) : (burst b at_ w i).length = b.length := by
  induction i with
  | zero => rfl
  | succ i ih => unfold burst; split <;> simp [flip_length, ih]
theorem burst_bytes {b : List Int} (h : Bytes b) (at_ : Nat) (w : BitVec 32) (i : Nat) : Bytes (burst b at_ w i) := by
  induction i with
  | zero => exact h
  | succ i ih => unfold burst; split; exact flip_bytes ih _; exact ih
theorem burst_bit (b : List Int) (at_ : Nat) (w : BitVec 32) (i m : Nat) : bitOf (burst b at_ w i) m = (bitOf b m ^^ decide (at_ ≤ m ∧ m < at_ + i ∧ m < 8 * b.length ∧ w.getLsbD (m - at_) = true)) := by
  induction i with
  | zero =>
    have : ¬ (at_ ≤ m ∧ m < at_ + 0 ∧ m < 8 * b.length ∧ w.getLsbD (m - at_) = true) := by omega
    simp only [this, decide_false, Bool.xor_false]; rfl
  | succ i ih =>
    unfold burst
    split
    · rename_i h
      simp only [Bool.and_eq_true, decide_eq_true_eq] at h
      rw [flip_bit _ (by rw [burst_length]; exact h.2), ih]
      by_cases hm : m = at_ + i
      · subst hm
        have h1 : ¬ (at_ ≤ at_ + i ∧ at_ + i < at_ + i ∧ at_ + i < 8 * b.length ∧ w.getLsbD (at_ + i - at_) = true) := by omega
        have h2 : at_ ≤ at_ + i ∧ at_ + i < at_ + (i + 1) ∧ at_ + i < 8 * b.length ∧ w.getLsbD (at_ + i - at_) = true := ⟨by omega, by omega, h.2, by rw [show at_ + i - at_ = i by omega]; exact h.1⟩
        rw [decide_eq_false h1, decide_eq_true h2, decide_eq_true rfl, Bool.xor_false]
      · have : (at_ ≤ m ∧ m < at_ + i ∧ m < 8 * b.length ∧ w.getLsbD (m - at_) = true) ↔ (at_ ≤ m ∧ m < at_ + (i + 1) ∧ m < 8 * b.length ∧ w.getLsbD (m - at_) = true) := by
          constructor
          · rintro ⟨a, b, c, d⟩; exact ⟨a, by omega, c, d⟩
          · rintro ⟨a, b, c, d⟩; exact ⟨a, by omega, c, d⟩
        simp only [hm, decide_false, Bool.xor_false, this]
    · rename_i h
      rw [ih]
      congr 1
      rw [decide_eq_decide]
      constructor
      · rintro ⟨a, b, c, d⟩; exact ⟨a, by omega, c, d⟩
      · rintro ⟨a, b, c, d⟩
        refine ⟨a, ?_, c, d⟩
        by_cases hm : m = at_ + i
        · subst hm
          exfalso
          apply h
          rw [show at_ + i - at_ = i by omega] at d
          simp [c, d]
        · omega
theorem turned_iff (n at_ : Nat) (w : BitVec 32) (i : Nat) : turned n at_ w i = true ↔ ∃ k, k < i ∧ w.getLsbD k = true ∧ at_ + k < n := by
  induction i with
  | zero => simp [turned]
  | succ i ih =>
    simp only [turned, Bool.or_eq_true, Bool.and_eq_true, decide_eq_true_eq, ih]
    constructor
    · rintro (⟨a, b⟩ | ⟨k, a, b, c⟩)
      · exact ⟨i, by omega, a, b⟩
      · exact ⟨k, by omega, b, c⟩
    · rintro ⟨k, a, b, c⟩
      rcases Nat.lt_or_ge k i with h | h
      · exact .inr ⟨k, h, b, c⟩
      · have : k = i := by omega
        subst this
        exact .inl ⟨b, c⟩
theorem more_burst (s : BitVec 32) (b : List Int) (hb : Bytes b) (at_ : Nat) (w : BitVec 32) (hat : at_ < 8 * b.length) : more s b ≠ more s (burst b at_ w 32) ↔ turned (8 * b.length) at_ w 32 = true := by
  have hl : b.length = (burst b at_ w 32).length := (burst_length _ _ _ _).symm
  have hbb := burst_bytes hb at_ w 32
  have hz : Bytes (List.zipWith bx b (burst b at_ w 32)) := by
    intro c hc
    obtain ⟨i, hi, rfl⟩ := List.mem_iff_getElem.1 hc
    rw [List.getElem_zipWith]
    exact bx_byte _ _
  have hlen : (List.zipWith bx b (burst b at_ w 32)).length = b.length := by rw [List.length_zipWith, ← hl, Nat.min_self]
  have hbit : ∀ m, bitOf (List.zipWith bx b (burst b at_ w 32)) m = decide (at_ ≤ m ∧ m < at_ + 32 ∧ m < 8 * b.length ∧ w.getLsbD (m - at_) = true) := by
    intro m
    rw [zip_bit _ _ hl, burst_bit]
    cases bitOf b m <;> simp
  rw [Ne, more_diff s b _ hb hbb hl, run_bits _ hz, hlen, feed_burst _ _ at_ (fun i hi => by rw [hbit]; simp; omega) (fun i hi => by rw [hbit]; simp; omega) (by omega), turned_iff]
  constructor
  · intro h
    simp only [Classical.not_forall] at h
    obtain ⟨i, hi, h⟩ := h
    rw [hbit] at h
    simp only [Bool.not_eq_false, decide_eq_true_eq] at h
    exact ⟨i - at_, by omega, h.2.2.2, by omega⟩
  · rintro ⟨k, hk, hw, hn⟩ h
    have := h (at_ + k) hn
    rw [hbit, show at_ + k - at_ = k by omega] at this
    simp only [decide_eq_false_iff_not] at this
    exact this ⟨by omega, by omega, hn, hw⟩
end Go.Proofs.YtgljebaiakhbfaaGreat.CrcMath
