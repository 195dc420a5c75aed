/- What this text proves: an argument that reads as data is a value of its kind (whole numbers, bools, structs, slices of them); no condition. -/
import Derived.Test.YtgljebaiakhbfaaGreatWWords
import Derived.Deep.Slices
import Derived.WideShapes
namespace Go.Proofs.YtgljebaiakhbfaaGreat.RowAid
open Go.RowKit Go.Proofs.YtgljebaiakhbfaaGreatW.PrintWords Go.WideShapes Go.ChangeShapes
section
variable {H : Type} (enc : TypeId × Value → H) (P : Program) (w : World) (base : Nat) (spare : Nat → Bool) (held : Bool)
/-- Cells that read as data of type t are those of a value of the kind d. -/
def Opens {α : Type} (d : Kd α) (t : TypeId) (ok : α → Prop) : Prop := ∀ fuel cs x, DataW.trod enc P w base spare held fuel t cs = some x → ∃ a, d.K w a cs ∧ ok a
def Seg (n : Nat) (cs : List Value) : List (Nat × TypeId) → Prop
  | [] => True
  | (o, t) :: r => (∃ y, DataW.trod enc P w base spare held n t ((cs.drop o).take (P.cellsOf t)) = some y) ∧ Seg n cs r
/-- The fields from a place on. -/
def OpensSeg {α : Type} (d : Kd α) (off : Nat) (l : List (Nat × TypeId)) (ok : α → Prop) : Prop := ∀ n cs, cs.length = off + d.sz → Seg enc P w base spare held n cs l → ∃ a, d.K w a (cs.drop off) ∧ ok a
variable {enc P w base spare held}
theorem opens_int {t : TypeId} {k : IntKind} (ht : P.underlying t = some (.int k)) : Opens enc P w base spare held (Kd.int k) t (fun a => (Lit.int k a).wf = true) := fun _ _ _ h => by
  obtain ⟨n, rfl, _, hw⟩ := DataW.trod_int ht h
  exact ⟨n, rfl, hw⟩
theorem reads_row {α : Type} {d : Kd α} {ok : α → Prop} (a : Addr) (n : Nat) (hn : n ≤ maxLen) (h : ∀ i, i < n → ∃ cs x, cs.length = d.sz ∧ d.K w x cs ∧ ok x ∧ ∀ j, j < d.sz → w.cell? (a.add (i * d.sz + j)) = cs[j]?) :
    ∃ xs : List α, xs.length = n ∧ d.C w (some a) n xs ∧ ∀ x ∈ xs, ok x := by
  have key : ∀ m, m ≤ n → ∃ xs : List α, xs.length = m ∧ (∀ j p, xs[j]? = some p → ∃ c, c.length = d.sz ∧ d.K w p c ∧ ∀ i u, c[i]? = some u → w.cell? (a.add (j * d.sz + i)) = some u) ∧ ∀ x ∈ xs, ok x := by
    intro m
    induction m with
    | zero => intro _; exact ⟨[], rfl, fun j p h => by simp at h, fun x h => by cases h⟩
    | succ m ih =>
      intro hm
      obtain ⟨xs, hl, hx, ho⟩ := ih (by omega)
      obtain ⟨cs, x, hc, hk, hok, hcell⟩ := h m (by omega)
      refine ⟨xs ++ [x], by simp [hl], fun j p hj => ?_, fun y hy => ?_⟩
      · rcases Nat.lt_or_ge j xs.length with h1 | h1
        · rw [List.getElem?_append_left h1] at hj
          exact hx j p hj
        · rw [List.getElem?_append_right h1] at hj
          have h2 : j = m := by
            have := (List.getElem?_eq_some_iff.1 hj).1
            simp at this; omega
          subst h2
          rw [hl, Nat.sub_self] at hj
          simp only [List.getElem?_cons_zero, Option.some.injEq] at hj
          subst hj
          refine ⟨cs, hc, hk, fun i u hi => ?_⟩
          have hi2 := (List.getElem?_eq_some_iff.1 hi).1
          rw [hcell i (by omega), hi]
      · rcases List.mem_append.1 hy with h1 | h1
        · exact ho y h1
        · rw [List.mem_singleton.1 h1]; exact hok
  obtain ⟨xs, hl, hx, ho⟩ := key n (Nat.le_refl _)
  exact ⟨xs, hl, ⟨hl, hn, fun _ => ⟨a, rfl, hx⟩⟩, ho⟩
theorem opens_slice {α : Type} {d : Kd α} {t e : TypeId} {ok : α → Prop} (ht : P.underlying t = some (.slice e)) (hC : P.cellsOf e = d.sz) (he : Opens enc P w base spare held d e ok) :
    Opens enc P w base spare held (Kd.slice e d) t (fun l => l.length ≤ maxLen ∧ ∀ x ∈ l, ok x) := fun _ cs x h => by
  rcases Go.Deep.open_slice ht h with ⟨rfl, _⟩ | ⟨a, len, cap, m, n, D, Pl, rfl, hb, hl, hm, hmm, rfl, hx⟩
  · exact ⟨[], ⟨none, 0, rfl, Nat.le_refl _, ⟨rfl, by simp, fun h => absurd h (Nat.lt_irrefl 0)⟩⟩, Nat.zero_le _, fun x h => by cases h⟩
  · have hle : len ≤ m := by rw [hmm]; split <;> omega
    obtain ⟨xs, hxl, hxc, hxo⟩ := reads_row (w := w) (d := d) (ok := ok) a len (by omega) (fun i hi => by
      obtain ⟨cs', h1, h2⟩ := hx i (by omega)
      obtain ⟨_, hlen, hat⟩ := World.cells?_some h1
      obtain ⟨p, hk, hok⟩ := he _ _ _ h2
      rw [hC] at hlen hat
      refine ⟨cs', p, hlen, hk, hok, fun j hj => ?_⟩
      rw [← hat j hj, Go.Deep.add_add])
    subst hxl
    exact ⟨xs, ⟨some a, cap, rfl, hl, hxc⟩, by omega, hxo⟩
theorem seg_one {α : Type} {d : Kd α} {t : TypeId} {ok : α → Prop} (off : Nat) (h : Opens enc P w base spare held d t ok) (hC : P.cellsOf t = d.sz) : OpensSeg enc P w base spare held d off [(off, t)] ok := fun n cs hl hs => by
  obtain ⟨⟨y, hy⟩, _⟩ := hs
  rw [hC, List.take_of_length_le (by rw [List.length_drop]; omega)] at hy
  exact h _ _ _ hy
theorem seg_cons {α β : Type} {d0 : Kd α} {d1 : Kd β} {t : TypeId} {ok0 : α → Prop} {ok1 : β → Prop} {off : Nat} {l : List (Nat × TypeId)} (h : Opens enc P w base spare held d0 t ok0) (hC : P.cellsOf t = d0.sz) (h1 : OpensSeg enc P w base spare held d1 (off + d0.sz) l ok1) :
    OpensSeg enc P w base spare held (Kd.pair d0 d1) off ((off, t) :: l) (fun p => ok0 p.1 ∧ ok1 p.2) := fun n cs hl hs => by
  obtain ⟨⟨y, hy⟩, hs⟩ := hs
  rw [hC] at hy
  obtain ⟨a, ka, oa⟩ := h _ _ _ hy
  obtain ⟨b, kb, ob⟩ := h1 n cs (by rw [hl]; show off + (d0.sz + d1.sz) = _; omega) hs
  refine ⟨(a, b), ⟨_, _, ?_, ka, kb⟩, oa, ob⟩
  rw [← List.drop_drop, List.take_append_drop]
theorem seg_iso {α β : Type} {d : Kd α} {f : β → α} {off : Nat} {l : List (Nat × TypeId)} {ok : α → Prop} (g : α → β) (hg : ∀ a, f (g a) = a) (h : OpensSeg enc P w base spare held d off l ok) : OpensSeg enc P w base spare held (Kd.iso d f) off l (fun b => ok (f b)) := fun n cs hl hs => by
  obtain ⟨a, ka, oa⟩ := h n cs hl hs
  exact ⟨g a, by show d.K w (f (g a)) _; rw [hg]; exact ka, by show ok (f (g a)); rw [hg]; exact oa⟩
theorem seg_of {n : Nat} {cs : List Value} {fs : List Field} (h : ∀ (i : Nat) (f : Field), fs[i]? = some f → ∃ y, DataW.trod enc P w base spare held n f.type ((cs.drop f.offset).take (P.cellsOf f.type)) = some y) :
    Seg enc P w base spare held n cs (fs.map fun f => (f.offset, f.type)) := by
  induction fs with
  | nil => trivial
  | cons f fs ih => exact ⟨h 0 f rfl, ih fun i g hi => h (i + 1) g (by simpa using hi)⟩
theorem opens_struct {α : Type} {d : Kd α} {t : TypeId} {fs : Array Field} {l : List (Nat × TypeId)} {ok : α → Prop} (ht : P.underlying t = some (.struct fs)) (hl : fs.toList.map (fun f => (f.offset, f.type)) = l) (hC : P.cellsOf t = d.sz) (h : OpensSeg enc P w base spare held d 0 l ok) :
    Opens enc P w base spare held d t ok := fun _ cs x hx => by
  obtain ⟨xs, n, _, _, hlen, hxl, hf⟩ := DataW.trod_struct ht hx
  obtain ⟨a, ka, oa⟩ := h n cs (by rw [hlen, hC]; omega) (by
    rw [← hl]
    refine seg_of fun i f hi => ?_
    have hi2 : fs[i]? = some f := by simpa using hi
    have h1 := hf i f hi2
    have hlt : i < xs.length := by rw [hxl]; exact (Array.getElem?_eq_some_iff.1 hi2).1
    rw [List.getElem?_eq_getElem hlt] at h1
    exact ⟨_, h1⟩)
  exact ⟨a, by simpa using ka, oa⟩
/-- A parameter that is a struct: its cells. -/
theorem param_struct {α : Type} {d : Kd α} {t : TypeId} {fs : Array Field} {ok : α → Prop} {r : Reach} {b0 : Nat} {v : Value} {x : DataW H} {p : List MemPlace} (ht : P.underlying t = some (.struct fs)) (ho : Opens enc P w base spare held d t ok)
    (hv : Value.okWide P w r b0 t v) (h : DataW.Trod enc P w base spare held t v x p) : ∃ a cs, v = .agg (cs : List Value).toArray ∧ d.K w a cs ∧ ok a := by
  obtain ⟨cs, rfl, hsz⟩ := okWide_struct ht hv
  obtain ⟨fuel, hf⟩ := h
  obtain ⟨a, ka, oa⟩ := ho _ _ _ hf
  exact ⟨a, cs.toList, by simp, by simpa [Value.cells] using ka, oa⟩
end
end Go.Proofs.YtgljebaiakhbfaaGreat.RowAid
