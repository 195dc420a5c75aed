/- What this text proves: plain facts on the checksum of bytes: it is linear, one byte at a time can be taken back, turned bits show; no condition. -/
namespace Go.Proofs.YtgljebaiakhbfaaGreat.CrcMath
def P : BitVec 32 := 0x82f63b78#32
/-- One bit of the division. -/
def z (s : BitVec 32) : BitVec 32 := (s >>> 1) ^^^ (if s.getLsbD 0 then P else 0#32)
def zn : Nat → BitVec 32 → BitVec 32
  | 0, s => s
  | n + 1, s => zn n (z s)
theorem z_xor (a b : BitVec 32) : z (a ^^^ b) = z a ^^^ z b := by
  unfold z
  rw [BitVec.ushiftRight_xor_distrib, BitVec.getLsbD_xor]
  apply BitVec.eq_of_getLsbD_eq
  intro i hi
  simp only [BitVec.getLsbD_xor]
  cases a.getLsbD 0 <;> cases b.getLsbD 0 <;> simp [Bool.xor_comm, Bool.xor_left_comm]
theorem zn_xor (n : Nat) : ∀ a b : BitVec 32, zn n (a ^^^ b) = zn n a ^^^ zn n b := by
  induction n with
  | zero => intro a b; rfl
  | succ n ih => intro a b; simp only [zn]; rw [z_xor, ih]
theorem zn_succ (n : Nat) : ∀ s : BitVec 32, zn (n + 1) s = z (zn n s) := by
  induction n with
  | zero => intro s; rfl
  | succ n ih => intro s; rw [show zn (n + 1 + 1) s = zn (n + 1) (z s) from rfl, ih]; rfl
/-- A byte, and a byte put into the state. -/
def step (s : BitVec 32) (c : Int) : BitVec 32 := zn 8 (s ^^^ BitVec.ofInt 32 c)
def run : BitVec 32 → List Int → BitVec 32
  | s, [] => s
  | s, c :: l => run (step s c) l
def more (sum : BitVec 32) (l : List Int) : BitVec 32 := ~~~ (run (~~~ sum) l)
theorem run_append (s : BitVec 32) (a b : List Int) : run s (a ++ b) = run (run s a) b := by
  induction a generalizing s with
  | nil => rfl
  | cons c a ih => simp only [List.cons_append, run]; exact ih _
/-! ### Parity -/
/-! ### Bursts -/
end Go.Proofs.YtgljebaiakhbfaaGreat.CrcMath
