/- What this text proves: what a map from whole numbers to whole numbers, made by the call itself, has for a key, and what becomes of it; no condition. -/
import Derived.Maps.OwnOps
import Derived.Maps.Views
import Derived.Test.YtgljebaiakhbfaaGreatWWords
import Derived.Test.YtgljebaiakhbfaaGreatWKept
namespace Go.Proofs.YtgljebaiakhbfaaGreat.MapAid
open Go.RowKit Go.Proofs.YtgljebaiakhbfaaGreatW.PrintWords Go.Proofs.YtgljebaiakhbfaaGreatW.PrintLast Go.Maps
/-- Block b is a map of at most n entries (keys and numbers of type k); what it has for a key. -/
def IsM (P : Program) (k : TypeId) (w : World) (b n : Nat) (f : Int → Int) : Prop := ∃ D : DataW Unit, w.ownsMap P k (plainElem P k) b n D ∧ ∀ x, (Lit.int .i64 x).wf = true → D.atKey (.int .i64 x) (.lit (.int .i64 0)) = .lit (.int .i64 (f x))
section
variable {P : Program} {k t : TypeId} {w w1 : World} {b n : Nat} {f : Int → Int}
theorem IsM.made (P : Program) (k : TypeId) (w : World) : IsM P k (w.alloc (.map #[] 0)) w.heap.size 0 (fun _ => 0) := ⟨.map [], World.ownsMap_made _ _ _ _, fun _ _ => rfl⟩
theorem IsM.heap (h : IsM P k w b n f) : ∃ es c, w.heap[b]? = some (.map es c) := by
  obtain ⟨D, ⟨es, c, hb, _⟩, _⟩ := h
  exact ⟨es, c, hb⟩
theorem IsM.lt (h : IsM P k w b n f) : b < w.heap.size := by
  obtain ⟨es, c, hb⟩ := h.heap
  exact (Array.getElem?_eq_some_iff.1 hb).1
theorem IsM.move (h : IsM P k w b n f) (hm : w1.heap[b]? = w.heap[b]?) : IsM P k w1 b n f := by
  obtain ⟨D, ⟨es, c, hb, r⟩, hf⟩ := h
  exact ⟨D, ⟨es, c, hm.trans hb, r⟩, hf⟩
theorem IsM.below (h : IsM P k w b n f) (hb : Below w.heap.size w w1) : IsM P k w1 b n f := h.move (hb.block b h.lt)
theorem IsM.kept (h : IsM P k w b n f) {S : Nat → Prop} (hk : Kept w w1 S) (hn : ¬ S b) : IsM P k w1 b n f := h.move (hk.2 b h.lt hn)
theorem IsM.drew (h : IsM P k w b n f) : IsM P k w.drew b n f := h
theorem IsM.far (h : IsM P k w b n f) {p : Addr} (hp : b ≠ p.block) (u : Value) : IsM P k (w.setCell p u) b n f := h.move (Below.heap_setCell w p u b hp)
/-- It is none of the blocks of cells. -/
theorem IsM.ne (h : IsM P k w b n f) {g e : Nat} {cs : Array Value} {fr : Nat × Nat} (hg : w.heap[g]? = some (.cells cs e fr)) : b ≠ g := by
  rintro rfl
  obtain ⟨es, c, hb⟩ := h.heap
  rw [hb] at hg
  cases hg
theorem IsM.ne_own {α : Type} {d : Kd α} {e base : Nat} {ok : Nat → Prop} {v : Value} {xs : List α} (h : IsM P k w b n f) (ho : d.R e w base ok v xs) : some b ≠ v.ownBlock := fun eq => by
  obtain ⟨_, inner, ho, _⟩ := ho
  obtain ⟨cells, hc⟩ := own_typed ho b eq.symm
  exact h.ne hc rfl
/-- A row stays where the map is written. -/
theorem IsM.row {α : Type} {d : Kd α} {e base : Nat} {ok : Nat → Prop} {v : Value} {xs : List α} (h : IsM P k w b n f) (ho : d.R e w base ok v xs) : d.R e w base (fun j => ok j ∧ j ≠ b) v xs :=
  Kd.R_mono (Kd.R_bound ho) (fun _ hj => ⟨hj.1, by
    obtain ⟨_, _, _, q, _, cells, hc⟩ := hj
    exact fun eq => h.ne hc eq.symm⟩)
theorem IsM.row_grown {α : Type} {d : Kd α} {e base : Nat} {v : Value} {xs : List α} (h : IsM P k w b n f) (ho : d.R e w base (fun _ => True) v xs) (hg : w.grownBy w1 (some b)) : d.R e w1 base (fun _ => True) v xs :=
  Kd.R_mono (Kd.R_grown (h.row ho) hg (fun _ hj e => hj.2 (Option.some.inj e))) (fun _ _ => trivial)
theorem IsM.lookup (h : IsM P k w b n f) (hk : P.underlying k = some (.int .i64)) (ht : P.underlying t = some (.map k k)) (hz : (zeroValue k).run P w = .ok (.int .i64 0) w) {x : Int} (hx : (Lit.int .i64 x).wf = true) :
    (Instr.lookup t (.map (some b)) (.int .i64 x) false).run P w = .ok (.int .i64 (f x)) w ∧ (Lit.int .i64 (f x)).wf = true := by
  obtain ⟨D, hD, hf⟩ := h
  obtain ⟨c, hrun, hat, hw⟩ := hD.lookup_int (int_keyed hk) ht hk hz (keyOf_int_mk hk hx)
  rw [hf x hx] at hat
  injection hat with hat
  injection hat with _ hat
  subst hat
  exact ⟨hrun, hw⟩
def upd (f : Int → Int) (x v : Int) : Int → Int := fun y => if y = x then v else f y
theorem IsM.update (h : IsM P k w b n f) (hk : P.underlying k = some (.int .i64)) (ht : P.underlying t = some (.map k k)) (hn : n < maxLen) {x v : Int} (hx : (Lit.int .i64 x).wf = true) (hv : (Lit.int .i64 v).wf = true) :
    ∃ w', (Instr.mapUpdate t (.map (some b)) (.int .i64 x) (.int .i64 v)).run P w = .ok () w' ∧ IsM P k w' b (n + 1) (upd f x v) ∧ w.grownBy w' (some b) := by
  obtain ⟨D, hD, hf⟩ := h
  have hm : IsMap D := by obtain ⟨es, c, _, _, _, rfl⟩ := hD; exact ⟨_, rfl⟩
  obtain ⟨w', hrun, h2, hg⟩ := hD.update (int_keyed hk) ht hn (keyOf_int_mk hk hx) (plainElem_int hk hv)
  refine ⟨w', hrun, ⟨_, h2, fun y hy => ?_⟩, hg⟩
  unfold upd
  by_cases e : y = x
  · subst e
    rw [if_pos rfl, atKey_put_same hm (by trivial)]
  · rw [if_neg e, atKey_put_other (by intro e2; injection e2 with _ e2; exact e e2), hf y hy]
theorem wpList_mapUpdate_is {ops : Array Oper} {rest : List Oper} {o : Oper} {a : Act} {Q : Exit → Act → World → Prop} (hg : o.guard = none) (m x v : Operand) (t : TypeId) (hop : o.op = Op.mapUpdate t m x v)
    (h : IsM P k w b n f) (hk : P.underlying k = some (.int .i64)) (ht : P.underlying t = some (.map k k)) (hn : n < maxLen) {x' v' : Int} (hm : a.eval m = .map (some b)) (hx : a.eval x = .int .i64 x') (hv : a.eval v = .int .i64 v') (hwx : (Lit.int .i64 x').wf = true) (hwv : (Lit.int .i64 v').wf = true)
    (hK : ∀ w', IsM P k w' b (n + 1) (upd f x' v') → w.grownBy w' (some b) → wpList P ops Q rest (a.put o.dst undef) w') : wpList P ops Q (o :: rest) a w := by
  refine wpList_plain hg fun K' hK' => ?_
  obtain ⟨w', hrun, r1, r2⟩ := h.update hk ht hn hwx hwv
  unfold Oper.wp
  simp [execOp, hop, hm, hx, hv, hrun, Result.andThen]
  exact hK' _ _ (hK w' r1 r2)
end
end Go.Proofs.YtgljebaiakhbfaaGreat.MapAid
