/- What this text proves: what the reader of a segment comes to at the data of a block; conditions: the data are a block's, and its records go on. what the reader of a segment comes to at all frames' data; conditions: the data are a segment's. what the segment of bytes is, told by its frames; conditions: the bytes are a segment's. -/
import Derived.Test.YtgljebaiakhbfaaGreatUpHead
namespace Go.Proofs.YtgljebaiakhbfaaGreat.QTopUpgrades
open Go.RowKit Go.Proofs.YtgljebaiakhbfaaGreatW.PrintWords Go.Proofs.YtgljebaiakhbfaaGreatW.PrintLast Go.Proofs.YtgljebaiakhbfaaGreatW.PrintMore
attribute [local go_sem] max2_int min2_int max_two min_two max_three min_three max_four min_four
set_option linter.unusedVariables false
set_option linter.unusedSimpArgs false
theorem rd_put2 {W : World} {g : Nat} {v kd f : Int} {rs rs' : Value} {b b' : Bool} (h : RdAt W g v kd f rs b) : RdAt ((W.setCell ⟨g, 3, none⟩ rs').setCell ⟨g, 4, none⟩ (.bool b')) g v kd f rs' b' := by
  have h3 := blk_put h 3 rs' (cs' := #[.int .i64 v, .int .i64 kd, .int .i64 f, rs', .bool b]) rfl
  exact blk_put h3 4 (.bool b') rfl
theorem rd_far2 {W : World} {g base : Nat} {v kd f : Int} {rs vr b0 b1 : Value} {b : Bool} {xs : List S62} (h : Kd.R k62 62 W base (fun _ => True) vr xs) (hR : RdAt W g v kd f rs b) : Kd.R k62 62 ((W.setCell ⟨g, 3, none⟩ b0).setCell ⟨g, 4, none⟩ b1) base (fun _ => True) vr xs :=
  Kd.R_mono (Kd.R_far (p := ⟨g, 4, none⟩) (Kd.R_far (p := ⟨g, 3, none⟩) (Kd.R_types h hR (by decide)) (fun _ hk => hk.2) _) (fun _ hk => hk.2) _) (fun _ _ => trivial)
theorem kept_put {w W : World} {g j : Nat} {v : Value} {S : Nat → Prop} (h : Kept w W (fun k => k = g ∨ S k)) : Kept w (W.setCell ⟨g, j, none⟩ v) (fun k => k = g ∨ S k) :=
  ⟨by have := h.1; simpa using this, fun i hi hn => (Below.heap_setCell W ⟨g, j, none⟩ v i (fun e => hn (.inl e))).trans (h.2 i hi hn)⟩
/-- The records of a block's data. -/
def blockF (k : Nat) (v : Int) (d : List Int) : Option (List S62) :=
  if v = 3 then (block_Decode.f k d).bind fun r => if r.2 = 0 then some r.1 else none else (segment_elder.f k v d).bind fun r => if r.2 = true then some r.1 else none
theorem blockF_cases {k : Nat} {v : Int} {d : List Int} {l : List S62} (h : blockF k v d = some l) : ((v == 3) = true ∧ block_Decode.f k d = some (l, 0)) ∨ ((v == 3) = false ∧ segment_elder.f k v d = some (l, true)) := by
  unfold blockF at h
  by_cases hv : v = 3
  · rw [if_pos hv, Option.bind_eq_some_iff] at h
    obtain ⟨⟨r1, r2⟩, hr, h⟩ := h
    split at h
    case isFalse => cases h
    rename_i h0
    obtain rfl := Option.some.inj h
    simp only at h0
    subst h0
    exact .inl ⟨beq_iff_eq.mpr hv, hr⟩
  · rw [if_neg hv, Option.bind_eq_some_iff] at h
    obtain ⟨⟨r1, r2⟩, hr, h⟩ := h
    split at h
    case isFalse => cases h
    rename_i h0
    obtain rfl := Option.some.inj h
    simp only at h0
    subst h0
    exact .inr ⟨beq_eq_false_iff_ne.mpr hv, hr⟩
/-- What a call of the reader's block leaves. -/
def BlockOf (w0 w : World) (g : Nat) (v kd f : Int) (vr : Value) (zs : List S62) (full : Bool) (e : Ending) (w' : World) : Prop :=
  e = .returned (.int .i64 0) ∧ ∃ vr', RdAt w' g v kd f vr' full ∧ Kd.R k62 62 w' w0.heap.size (fun _ => True) vr' zs ∧ Below w0.heap.size w0 w' ∧ Kept w w' (fun k => k = g ∨ some k = vr.ownBlock) ∧ (vr'.ownBlock = vr.ownBlock ∨ ∃ b, vr'.ownBlock = some b ∧ w.heap.size ≤ b)
set_option maxHeartbeats 8000000 in
set_option maxRecDepth 100000 in
theorem block_calls (k g : Nat) (v kd f : Int) (vr : Value) (xs l : List S62) (A : Option Addr) (c : Nat) (d : List Int) (w0 w : World) (hb0 : Below w0.heap.size w0 w) (hg0 : w0.heap.size ≤ g) (hR : RdAt w g v kd f vr true) (hV : Kd.R k62 62 w w0.heap.size (fun _ => True) vr xs)
    (hC : Kd.C (Kd.int .u8) w A d.length d) (hc : d.length ≤ c) (h : blockF k v d = some l) (hl0 : 0 < l.length) (hl1 : l.length ≤ 16) (hf : segment_fit.f k l (f + (xs.length : Int)) = some true) (hf0 : 0 ≤ f) (hf1 : f < 4611686018427387904) (hx : xs.length + l.length ≤ 4096) :
    Calls Tryz.prog 92 #[.pointer (some ⟨g, 0, none⟩), .slice A d.length c] w (BlockOf w0 w g v kd f vr (xs ++ l) ((l.length : Int) == 16)) := by
  obtain ⟨Ar, cr, rfl⟩ := Kd.R_slice hV
  have s1 : IntKind.i64.wrap (f + (xs.length : Int)) = f + (xs.length : Int) := IntWalk.i64_in _ (by omega)
  have s2 : IntKind.i64.wrap ((xs.length : Int) + (l.length : Int)) = (xs.length : Int) + (l.length : Int) := IntWalk.i64_in _ (by omega)
  have t1 : ((l.length : Int) == 0) = false := beq_eq_false_iff_ne.mpr (by omega)
  have t1' : (l.length == 0) = false := beq_eq_false_iff_ne.mpr (by omega)
  have t2 : decide (16 < (l.length : Int)) = false := decide_eq_false (by omega)
  have t2' : decide (16 < l.length) = false := decide_eq_false (by omega)
  have t3 : decide (4096 < (xs.length : Int) + (l.length : Int)) = false := decide_eq_false (by omega)
  have HX := Aside0.mk hx
  have HR := Aside0.mk hR
  have HV := Aside0.mk hV
  have HC := Aside0.mk (And.intro hC hc)
  have HB := Aside0.mk (And.intro hb0 hg0)
  have HF := Aside0.mk hf
  have HP := Aside0.mk (Kd.V_mk (base := w.heap.size) (e := 5) hc (Kd.C_F (Kd.heap_int .u8) hC))
  have hcase := blockF_cases h
  clear h hl0 hl1 hf hf0 hf1 hx hR hV hC hc hb0 hg0
  rcases hcase with ⟨b3, hx⟩ | ⟨b3, hx⟩
  all_goals
    have HD := Aside0.mk hx
    clear hx
    have hcl := (fun i => blk_cell HR.out i)
    go_enter Tryz.func92, Tryz.ntmps92
    go_upto_region 7 with (first
      | (go_at_call 133; refine (block_Decode.calls k A c d l 0 _ HC.out.1 HC.out.2 HD.out).mono ?_; rintro e w1 ⟨vl, rfl, ho, hb⟩; obtain ⟨Al, cl, rfl⟩ := Kd.R_slice ho; have HL1 := Aside0.mk (And.intro (Kd.R_reads' ho).2.2 (Kd.R_reads' ho).2.1); have HB1 := Aside0.mk hb; clear ho hb)
      | (go_at_call 134; refine (segment_elder.calls k v _ A c d l true _ HP.out HD.out).mono ?_; rintro e w1 ⟨vl, rfl, ho, hb⟩; obtain ⟨Al, cl, rfl⟩ := Kd.R_slice ho; have HL1 := Aside0.mk (And.intro (Kd.R_reads' ho).2.2 (Kd.R_reads' ho).2.1); have HB1 := Aside0.mk hb; clear ho hb))
    clear hcl
    have HR1 := Aside0.mk (show RdAt w1 g v kd f (.slice Ar xs.length cr) true from blk_below HR.out HB1.out)
    have hcl := (fun i => blk_cell HR1.out i)
    go_quiet (fail)
    go_upto_region 8 with fail
    go_upto_region 12 with (go_at_call 16; refine (segment_fit.calls k Al cl l (f + (xs.length : Int)) true _ (Kd.C_below HL1.out.1 (by repeat (first | exact Below.refl _ _ | apply below_drew1 | apply pw_below_drewN))) HL1.out.2 HF.out).mono ?_; rintro e w2 ⟨rfl, hb⟩; have HB2 := Aside0.mk (below_step (below_step HB1.out (by repeat (first | exact Below.refl _ _ | apply below_drew1 | apply pw_below_drewN))) hb : Below w.heap.size w w2); have HL2 := Aside0.mk (And.intro (Kd.C_below HL1.out.1 (below_step (by repeat (first | exact Below.refl _ _ | apply below_drew1 | apply pw_below_drewN)) hb)) HL1.out.2); have HR2 := Aside0.mk (show RdAt w2 g v kd f (.slice Ar xs.length cr) true from blk_below HR1.out (below_step (by repeat (first | exact Below.refl _ _ | apply below_drew1 | apply pw_below_drewN)) hb)); clear hb hcl; have hcl := (fun i => blk_cell HR2.out i))
    have HV2 := Aside0.mk (Kd.R_below HV.out HB2.out)
    have HB3 := Aside0.mk (below_step HB.out.1 HB2.out)
    have hz := (fun i => blk_frozen HR2.out i)
    go_wp2_with ((with_reducible refine gate_builtin (b := .append) (xs := #[.tmp 87, .tmp 88]) rfl ?_); at_builtin; refine Kd.R_append_rows k62 (w0 := w0) w0.heap.size rfl (.tmp 87) (.tmp 88) 22 62 (.agg #[.int .i64 0, .int .i64 0, .int .i64 0, .int .i64 0, .int .i64 0, .int .i64 0, .int .i64 0]) 56 rfl Tryz.underlying22 info62 rfl (by decide) (by omega) (.slice Ar xs.length cr) xs l _ _ _ (fun _ => True) (fun _ => False) rfl rfl HV2.out HL2.out.1 (fun x cs h => by rw [k62_open h]; exact k62_mkM _ _ _ x) (fun _ h => h.elim) (fun _ _ => trivial) HB3.out (below_size HB3.out) (by have := HX.out; omega) ?_
                 intro v4 w4 ho hb hg hat
                 obtain ⟨A4, c4, rfl⟩ := Kd.R_slice ho
                 obtain ⟨zs, hzs⟩ : ∃ zs, zs = xs ++ l := ⟨_, rfl⟩
                 rw [← hzs] at ho hat ⊢
                 have HZ := Aside0.mk hzs
                 have HAT : Aside0 ((Value.slice A4 zs.length c4).ownBlock = (Value.slice Ar xs.length cr).ownBlock ∨ ∃ b, (Value.slice A4 zs.length c4).ownBlock = some b ∧ w.heap.size ≤ b) := ⟨hat.elim .inl (fun hh => .inr (hh.elim fun b hb2 => ⟨b, hb2.1, Nat.le_trans (below_size HB2.out) hb2.2⟩))⟩
                 clear hzs
                 have HR4 := Aside0.mk (show RdAt w4 g v kd f (.slice Ar xs.length cr) true from blk_grown HR2.out hg (Kd.R_ne HV2.out HR2.out (by decide)))
                 have HV4 := Aside0.mk ho
                 have HB4 := Aside0.mk hb
                 have HK4 := Aside0.mk (show Kept w w4 (fun k => k = g ∨ some k = (Value.slice Ar xs.length cr).ownBlock) from ⟨Nat.le_trans (below_size HB2.out) hg.size, fun i hi hn => (hg.block i (Nat.lt_of_lt_of_le hi (below_size HB2.out)) (fun e => hn (.inr e))).trans (HB2.out.block i hi)⟩)
                 clear hb hg hat ho hcl hz
                 have hcl := (fun i => blk_cell HR4.out i)
                 have hz := (fun i => blk_frozen HR4.out i))
    go_ret
    rw [← HZ.out]
    exact ⟨rfl, _, rd_put2 HR4.out, rd_far2 HV4.out HR4.out, below_set (below_set HB4.out HB.out.2) HB.out.2, kept_put (kept_put HK4.out), HAT.out⟩
end Go.Proofs.YtgljebaiakhbfaaGreat.QTopUpgrades
namespace Go.Proofs.YtgljebaiakhbfaaGreat.QTopUpgrades
open Go.RowKit Go.Proofs.YtgljebaiakhbfaaGreatW.PrintWords Go.Proofs.YtgljebaiakhbfaaGreatW.PrintLast Go.Proofs.YtgljebaiakhbfaaGreatW.PrintMore
attribute [local go_sem] max2_int min2_int max_two min_two max_three min_three max_four min_four
set_option linter.unusedVariables false
set_option linter.unusedSimpArgs false
/-- The records of blocks, one behind the other, behind others. -/
def blocksF (k : Nat) (v f : Int) : List (List Int) → List S62 → Bool → Option (List S62)
  | [], xs, _ => some xs
  | d :: ds, xs, full => (blockF k v d).bind fun l => if full = true ∧ 0 < l.length ∧ l.length ≤ 16 ∧ xs.length + l.length ≤ 4096 then
      (segment_fit.f k l (f + (xs.length : Int))).bind fun t => if t = true then blocksF k v f ds (xs ++ l) ((l.length : Int) == 16) else none else none
def walkF (k : Nat) (l : List (List Int)) : Option (Int × Int × List S62) :=
  if 0 < l.length then (headF k (rd_L2 l 0)).bind fun h => if 0 ≤ h.2.2 ∧ h.2.2 < 4611686018427387904 then (blocksF k h.1 h.2.2 (l.drop 1) [] true).bind fun xs => some (h.2.1, h.2.2, xs) else none else none
theorem walk_kept {w w1 w2 : World} {g : Nat} {v : Value} (h : Kept w w1 (fun k => k = g)) (h2 : Kept w1 w2 (fun k => k = g ∨ some k = v.ownBlock)) (ho : ∀ k, v.ownBlock = some k → w.heap.size ≤ k) : Kept w w2 (fun k => k = g) :=
  ⟨Nat.le_trans h.1 h2.1, fun i hi hn => (h2.2 i (Nat.lt_of_lt_of_le hi h.1) (fun e => e.elim hn (fun e => absurd (ho i e.symm) (by omega)))).trans (h.2 i hi hn)⟩
theorem walk_own {w w1 : World} {g : Nat} {v v' : Value} (h : Kept w w1 (fun k => k = g)) (hat : v'.ownBlock = v.ownBlock ∨ ∃ b, v'.ownBlock = some b ∧ w1.heap.size ≤ b) (ho : ∀ k, v.ownBlock = some k → w.heap.size ≤ k) : ∀ k, v'.ownBlock = some k → w.heap.size ≤ k := by
  intro k hk
  rcases hat with e | ⟨b, e, hb⟩
  · exact ho k (e.symm.trans hk)
  · have e2 := e.symm.trans hk
    injection e2 with e2
    subst e2
    exact Nat.le_trans h.1 hb
/-- What a call of the reader's walk leaves. -/
def WalkOf (w0 w : World) (g : Nat) (n : Nat) (kd f : Int) (zs : List S62) (e : Ending) (w' : World) : Prop :=
  e = .returned (.tuple #[.int .i64 (n : Int), .int .i64 0]) ∧ ∃ v vr full, RdAt w' g v kd f vr full ∧ Kd.R k62 62 w' w0.heap.size (fun _ => True) vr zs ∧ Below w0.heap.size w0 w' ∧ Kept w w' (fun k => k = g)
set_option maxHeartbeats 8000000 in
set_option maxRecDepth 100000 in
theorem walk_calls (k g : Nat) (A : Option Addr) (c : Nat) (l : List (List Int)) (kd f : Int) (zs : List S62) (w0 w : World) (hb0 : Below w0.heap.size w0 w) (hg0 : w0.heap.size ≤ g) (hR : RdAt w g 0 0 0 (.slice none 0 0) false)
    (hF : Kd.F (Kd.slice 5 (Kd.int .u8)) w (fun k => k ≠ g) A l.length l) (hc : l.length ≤ c) (h : walkF k l = some (kd, f, zs)) :
    Calls Tryz.prog 47 #[.pointer (some ⟨g, 0, none⟩), .slice A l.length c] w (WalkOf w0 w g l.length kd f zs) := by
  unfold walkF at h
  split at h
  case isFalse => cases h
  rename_i hl0
  rw [Option.bind_eq_some_iff] at h
  obtain ⟨⟨v, h2, h3⟩, hh, h⟩ := h
  split at h
  case isFalse => cases h
  rename_i hfc
  obtain ⟨hf0, hf1⟩ := hfc
  simp only at hf0 hf1 h
  rw [Option.bind_eq_some_iff] at h
  obtain ⟨xs, hxs, h⟩ := h
  obtain ⟨rfl, rfl, rfl⟩ : h2 = kd ∧ h3 = f ∧ xs = zs := by
    have := Option.some.inj h
    simp only [Prod.mk.injEq] at this
    exact this
  clear h
  obtain ⟨d0, hd0⟩ : ∃ d0, d0 = rd_L2 l 0 := ⟨_, rfl⟩
  obtain ⟨ds, hds⟩ : ∃ ds, ds = l.drop 1 := ⟨_, rfl⟩
  rw [← hd0] at hh
  rw [← hds] at hxs
  have hC := Kd.F_now hF
  obtain ⟨ad, A0, c0, hA, hx, hlc, hC0⟩ := at_L2 hC 0 (by omega) (by omega)
  subst hA
  rw [← hd0] at hx hlc hC0
  rw [show ad.add (0 : Int).toNat = ad from by cases ad; simp [Addr.add]] at hx
  obtain ⟨i0, hi0, _, hsz, _⟩ := info_parts info26
  have hcut := cut_from (P := Tryz.prog) 55 26 .i64 Tryz.underlying55 hi0 1 hsz (some ad) l.length c 1 (by omega) (by omega)
  have hdl : ds.length = l.length - 1 := by rw [hds, List.length_drop]
  rw [show (1 : Int).toNat = 1 from rfl, ← hdl] at hcut
  obtain ⟨A1, hA1⟩ : ∃ A1, A1 = (if c = 1 then some ad else (some ad).map (·.add (1 * 1))) := ⟨_, rfl⟩
  rw [← hA1] at hcut
  have hds2 : ∀ W : World, Kd.C (Kd.slice 5 (Kd.int .u8)) W (some ad) l.length l → Kd.C (Kd.slice 5 (Kd.int .u8)) W A1 ds.length ds := by
    intro W hW
    have := Kd.C_drop (m := 1) (c := c) hW (by omega) hc
    rw [← hds] at this
    rw [hA1]
    exact this
  have HDS := Aside0.mk hds2
  have HF := Aside0.mk hF
  have HH := Aside0.mk hh
  have HX := Aside0.mk hxs
  have HR := Aside0.mk hR
  have HB := Aside0.mk (And.intro hb0 hg0)
  have HC0 := Aside0.mk (And.intro hC0 hlc)
  have HFB := Aside0.mk (And.intro hf0 hf1)
  have hmx := hC.2.1
  have HN := Aside0.mk (show ds.length ≤ 9223372036854775806 by omega)
  clear hds2 hF hc hh hxs hR hb0 hg0 hC hC0 hlc hf0 hf1 hd0 hds hi0 hsz hA1 hdl hmx
  go_enter Tryz.func47, Tryz.ntmps47
  go_upto_region 4 with (go_at_call 91; refine (head_calls k g A0 c0 d0 v h2 h3 w0 _ HB.out.1 HB.out.2 HR.out HC0.out.1 HC0.out.2 HH.out).mono ?_; rintro e w1 ⟨rfl, hr, hb, hk⟩; have HR1 := Aside0.mk hr; have HB1 := Aside0.mk hb; have HK1 := Aside0.mk hk; clear hr hb hk)
  clear hx hl0
  go_wp2
  go_loopg [21] (ds.length + 1) (fun kq v21 w' => ∃ (i : Nat) (ys : List S62) (vr : Value) (full : Bool), v21 = .int .i64 i ∧ Aside0 (i ≤ ds.length ∧ ds.length + 1 ≤ i + kq) ∧ Aside0 (blocksF k v h3 (ds.drop i) ys full = some xs) ∧ Aside0 (RdAt w' g v h2 h3 vr full) ∧ Aside0 (Kd.R k62 62 w' w0.heap.size (fun _ => True) vr ys) ∧ Aside0 (Below w0.heap.size w0 w') ∧ Aside0 (Kept w w' (fun k => k = g)) ∧ Aside0 (∀ k, vr.ownBlock = some k → w.heap.size ≤ k))
  case atStart => exact ⟨0, [], .slice none 0 0, true, rfl, ⟨by omega⟩, HX, HR1, ⟨Kd.R_nil _ _ _ _ _⟩, HB1, HK1, ⟨fun k hk => by simp [Value.ownBlock] at hk⟩⟩
  case round =>
    clear HX HR1 HB1 HK1
    obtain ⟨i, ys, vr, full, rfl, HI, HA, HR, HV, HB1, HK, HO⟩ := hrel
    cases gk with
    | zero => exact absurd HI.out (by omega)
    | succ k1 =>
      by_cases hlt : i < ds.length
      · have hFw := Kd.F_step HF.out (fun j hj hlt => HK.out.2 j hlt hj)
        obtain ⟨ad1, Ai, ci, e1, hx, hli, hCi⟩ := at_L2 (HDS.out _ (Kd.F_now hFw)) (i : Int) (by omega) (by omega)
        subst e1
        obtain ⟨d, hd⟩ : ∃ d, d = rd_L2 ds (i : Int) := ⟨_, rfl⟩
        rw [← hd] at hx hli hCi
        rw [Int.toNat_natCast] at hx
        have hdr : ds.drop i = d :: ds.drop (i + 1) := by
          rw [List.drop_eq_getElem_cons hlt, hd]
          unfold rd_L2
          rw [Int.toNat_natCast, List.getD_eq_getElem?_getD, List.getElem?_eq_getElem hlt]
          rfl
        have h2' := HA.out
        rw [hdr, blocksF, Option.bind_eq_some_iff] at h2'
        obtain ⟨bl, hbl, h2'⟩ := h2'
        split at h2'
        case isFalse => cases h2'
        rename_i hbc
        obtain ⟨hfull, hb0, hb1, hb2⟩ := hbc
        subst hfull
        rw [Option.bind_eq_some_iff] at h2'
        obtain ⟨t, ht, h2'⟩ := h2'
        split at h2'
        case isFalse => cases h2'
        rename_i htt
        subst htt
        have H2 := Aside0.mk h2'
        have HBL := Aside0.mk (And.intro hbl (And.intro hb0 (And.intro hb1 (And.intro hb2 ht))))
        have HCI := Aside0.mk (And.intro hCi hli)
        clear h2' hbl hb0 hb1 hb2 ht hd hdr hli hCi hFw
        have hmx := HN.out
        go_wp2_with (go_at_call 92; refine (block_calls k g v h2 h3 vr ys bl Ai ci d w0 _ HB1.out HB.out.2 HR.out HV.out HCI.out.1 HCI.out.2 HBL.out.1 HBL.out.2.1 HBL.out.2.2.1 HBL.out.2.2.2.2 HFB.out.1 HFB.out.2 HBL.out.2.2.2.1).mono ?_; rintro e w3 ⟨rfl, vr', hr, hv, hb, hk, hat⟩; have HR3 := Aside0.mk hr; have HV3 := Aside0.mk hv; have HB3 := Aside0.mk hb; have HK3 := Aside0.mk (walk_kept HK.out hk HO.out); have HO3 := Aside0.mk (walk_own HK.out hat HO.out); clear hr hv hb hk hat)
        go_roundg k1
        case measure => omega
        case rel => exact ⟨i + 1, ys ++ bl, vr', ((bl.length : Int) == 16), by go_num, ⟨by have := HI.out; omega⟩, H2, HR3, HV3, HB3, HK3, HO3⟩
      · have h2' := HA.out
        rw [List.drop_eq_nil_of_le (by omega), blocksF] at h2'
        obtain rfl := Option.some.inj h2'
        clear h2'
        go_wp2
        go_ret2
        exact ⟨by first | rfl | (simp; done), v, vr, full, HR.out, HV.out, HB1.out, HK.out⟩
end Go.Proofs.YtgljebaiakhbfaaGreat.QTopUpgrades
namespace Go.Proofs.YtgljebaiakhbfaaGreat.QTopUpgrades
open Go.RowKit Go.Proofs.YtgljebaiakhbfaaGreatW.PrintWords Go.Proofs.YtgljebaiakhbfaaGreatW.PrintLast Go.Proofs.YtgljebaiakhbfaaGreatW.PrintMore
attribute [local go_sem] max2_int min2_int max_two min_two max_three min_three max_four min_four
set_option linter.unusedVariables false
set_option linter.unusedSimpArgs false
theorem seg_put3 {W : World} {g t : Nat} {a0 a1 a2 b0 b1 b2 : Value} (h : W.heap[g]? = some (.cells #[a0, a1, a2] t (0, 0))) : (((W.setCell ⟨g, 0, none⟩ b0).setCell ⟨g, 1, none⟩ b1).setCell ⟨g, 2, none⟩ b2).heap[g]? = some (.cells #[b0, b1, b2] t (0, 0)) := by
  have h0 := blk_put h 0 b0 (cs' := #[b0, a1, a2]) rfl
  have h1 := blk_put h0 1 b1 (cs' := #[b0, b1, a2]) rfl
  exact blk_put h1 2 b2 rfl
theorem seg_below3 {w W : World} {b0 b1 b2 : Value} (hb : Below w.heap.size w W) : Below w.heap.size w (((W.setCell ⟨w.heap.size, 0, none⟩ b0).setCell ⟨w.heap.size, 1, none⟩ b1).setCell ⟨w.heap.size, 2, none⟩ b2) :=
  below_set (below_set (below_set hb (Nat.le_refl _)) (Nat.le_refl _)) (Nat.le_refl _)
theorem seg_far3 {W : World} {g base : Nat} {a0 a1 a2 b0 b1 b2 vr : Value} {xs : List S62} (h : Kd.R k62 62 W base (fun _ => True) vr xs) (hR : W.heap[g]? = some (.cells #[a0, a1, a2] 24 (0, 0))) : Kd.R k62 62 (((W.setCell ⟨g, 0, none⟩ b0).setCell ⟨g, 1, none⟩ b1).setCell ⟨g, 2, none⟩ b2) base (fun _ => True) vr xs :=
  Kd.R_mono (Kd.R_far (p := ⟨g, 2, none⟩) (Kd.R_far (p := ⟨g, 1, none⟩) (Kd.R_far (p := ⟨g, 0, none⟩) (Kd.R_types h hR (by decide)) (fun _ hk => hk.2) _) (fun _ hk => hk.2) _) (fun _ hk => hk.2) _) (fun _ _ => trivial)
/-- The segment of bytes; none, if there is none. -/
def decodeF (k : Nat) (b : List Int) : Option (Int × Int × List S62) :=
  (frame_All.f k b).bind fun r => if r.2 = 0 ∧ 2 ≤ r.1.length then (walkF k (r.1.take (r.1.length - 1))).bind fun q => (segment_frames.f k (r.1.take (r.1.length - 1))).bind fun x =>
    (segment_footer.f k x).bind fun ft => (segment_framed.f k (rd_L2 r.1 ((r.1.length : Int) - 1))).bind fun fr => (bytes_Equal.f ft fr).bind fun e => if e = true then some q else none else none
/-- What a call of decode leaves. -/
def DecodeOf (w : World) (kd f : Int) (zs : List S62) (e : Ending) (w' : World) : Prop :=
  ∃ vr vx, e = .returned (.tuple #[.agg #[.int .i64 kd, .int .i64 f, vr], vx, .int .i64 0]) ∧ Kd.R k62 62 w' w.heap.size (fun _ => True) vr zs ∧ Below w.heap.size w w' ∧ ∃ A n c, vx = .slice A n c
set_option maxHeartbeats 8000000 in
set_option maxRecDepth 100000 in
theorem decode_calls (k : Nat) (A : Option Addr) (c : Nat) (b : List Int) (kd f : Int) (zs : List S62) (w : World) (hC : Kd.C (Kd.int .u8) w A b.length b) (hc : b.length ≤ c) (h : decodeF k b = some (kd, f, zs)) :
    Calls Tryz.prog 20 #[.slice A b.length c] w (DecodeOf w kd f zs) := by
  unfold decodeF at h
  rw [Option.bind_eq_some_iff] at h
  obtain ⟨⟨l, r2⟩, hl, h⟩ := h
  split at h
  case isFalse => cases h
  rename_i hlc
  obtain ⟨hr2, hl2⟩ := hlc
  simp only at hr2 hl2 h
  subst hr2
  rw [Option.bind_eq_some_iff] at h
  obtain ⟨q, hq, h⟩ := h
  rw [Option.bind_eq_some_iff] at h
  obtain ⟨x, hx, h⟩ := h
  rw [Option.bind_eq_some_iff] at h
  obtain ⟨ft, hft, h⟩ := h
  rw [Option.bind_eq_some_iff] at h
  obtain ⟨fr, hfr, h⟩ := h
  rw [Option.bind_eq_some_iff] at h
  obtain ⟨t, ht, h⟩ := h
  split at h
  case isFalse => cases h
  rename_i htt
  subst htt
  obtain rfl := Option.some.inj h
  clear h
  obtain ⟨n, hn⟩ : ∃ n, n = l.length - 1 := ⟨_, rfl⟩
  obtain ⟨l1, hl1⟩ : ∃ l1, l1 = l.take n := ⟨_, rfl⟩
  obtain ⟨dn, hdn⟩ : ∃ dn, dn = rd_L2 l (n : Int) := ⟨_, rfl⟩
  rw [show (l.length : Int) - 1 = (n : Int) by omega, ← hdn] at hfr
  rw [← hn, ← hl1] at hq hx
  have e1 : l1.length = n := by rw [hl1, List.length_take]; omega
  have t1 : decide ((l.length : Int) < 2) = false := decide_eq_false (by omega)
  have t1' : decide (l.length < 2) = false := decide_eq_false (by omega)
  have HL := Aside0.mk hl
  have HQ := Aside0.mk hq
  have HX := Aside0.mk hx
  have HFT := Aside0.mk hft
  have HFR := Aside0.mk hfr
  have HE := Aside0.mk ht
  have HN := Aside0.mk (And.intro (show n < l.length by omega) (And.intro hl1 (And.intro hdn (And.intro e1 (show (l.length : Int) - 1 = n by omega)))))
  have HC := Aside0.mk (And.intro hC hc)
  clear hl hq hx hft hfr ht hC hc hl2 hn hl1 hdn e1
  go_enter Tryz.func20, Tryz.ntmps20
  go_upto_region 1 with fail
  obtain ⟨w1, hw1⟩ : ∃ w1, w1 = w.alloc (.cells #[.int .i64 0, .int .i64 0, .slice none 0 0] 24) := ⟨_, rfl⟩
  have HR1 := Aside0.mk (show w1.heap[w.heap.size]? = some (.cells #[.int .i64 0, .int .i64 0, .slice none 0 0] 24 (0, 0)) by rw [hw1]; exact blk_new w _)
  have HB1 := Aside0.mk (show Below w.heap.size w w1 by rw [hw1]; exact below_alloc (Below.refl _ _) _)
  rw [← hw1]
  clear hw1
  go_upto_region 6 with (go_at_call 46; refine (frame_All.calls k A c b l 0 _ (Kd.C_below HC.out.1 HB1.out) HC.out.2 HL.out).mono ?_; rintro e w2 ⟨vl, rfl, ho, hb⟩; obtain ⟨Al, cl, rfl⟩ := Kd.S_slice ho; have HR2 := Aside0.mk (blk_below HR1.out hb); have HS2 := Aside0.mk (Kd.S_elderB (Kd.S_lower ho (below_size HB1.out)) w2.heap.size (Nat.le_refl _)); have HB2 := Aside0.mk (below_step HB1.out hb); clear ho hb HR1 HB1)
  go_upto_region 7 with fail
  obtain ⟨w3, hw3⟩ : ∃ w3, w3 = w2.alloc (.cells #[.int .i64 0, .int .i64 0, .int .i64 0, .slice none 0 0, .bool false] 93) := ⟨_, rfl⟩
  obtain ⟨g, hg⟩ : ∃ g, g = w2.heap.size := ⟨_, rfl⟩
  have HG3 := Aside0.mk (show RdAt w3 g 0 0 0 (.slice none 0 0) false by rw [hw3, hg]; exact blk_new w2 _)
  have HR3 := Aside0.mk (show w3.heap[w.heap.size]? = some (.cells #[.int .i64 0, .int .i64 0, .slice none 0 0] 24 (0, 0)) by rw [hw3]; exact blk_alloc HR2.out _)
  have HB3 := Aside0.mk (show Below w.heap.size w w3 by rw [hw3]; exact below_alloc HB2.out _)
  have HS3 := Aside0.mk (show Kd.S (Kd.slice 5 (Kd.int .u8)) 26 w3 w.heap.size (fun k => k ≠ g) (.slice Al l.length cl) l by rw [hw3, hg]; exact Kd.S_alloc (Kd.S_mono HS2.out (fun _ hk => hk.2)) _)
  have HNE := Aside0.mk (show w.heap.size ≠ g ∧ w.heap.size ≤ g by rw [hg]; exact ⟨Nat.ne_of_lt (blk_lt HR2.out), below_size HB2.out⟩)
  rw [← hw3, ← hg]
  clear hw3 hg HR2 HS2 HB2
  obtain ⟨hnl, hl1, hdn, e1, hsub⟩ := HN.out
  obtain ⟨_, hlcl, hCl⟩ := Kd.S_reads' HS3.out
  have hmx := hCl.2.1
  obtain ⟨i0, hi0, _, hsz, _⟩ := info_parts info26
  have hcut0 := cut_to (P := Tryz.prog) 55 26 .i64 Tryz.underlying55 hi0 Al l.length cl (n : Int) (by omega) (by omega) hlcl
  have hcut : ∀ W : World, (Instr.slice 55 (.slice Al l.length cl) none (some (.int .i64 (n : Int))) none).run Tryz.prog W = .ok (.slice Al l1.length cl) W := by rw [e1]; exact hcut0
  have HS1 := Aside0.mk (show Kd.S (Kd.slice 5 (Kd.int .u8)) 26 w3 w.heap.size (fun k => k ≠ g) (.slice Al l1.length cl) l1 by rw [e1, hl1]; exact Kd.S_take HS3.out (by omega))
  have HLC := Aside0.mk (show l1.length ≤ cl by omega)
  clear hl1 hdn e1 hcut0 hi0 hsz hCl hlcl
  go_upto_region 11 with (go_at_call 47; refine (walk_calls k g Al cl l1 kd f zs w _ HB3.out HNE.out.2 HG3.out (Kd.S_F HS1.out) HLC.out HQ.out).mono ?_; rintro e w4 ⟨rfl, v, vr, full, hr, hv, hb, hk⟩; have HG4 := Aside0.mk hr; have HV4 := Aside0.mk hv; have HB4 := Aside0.mk hb; have HS4 := Aside0.mk (Kd.S_kept HS3.out hk (fun _ h => h)); have HT4 := Aside0.mk (Kd.S_kept HS1.out hk (fun _ h => h)); have HR4 := Aside0.mk (blk_kept HR3.out hk HNE.out.1); clear hr hv hb hk HG3 HB3 HS3 HS1 HR3)
  clear hsub
  go_upto_region 12 with (go_at_call 48; refine (segment_frames.calls k Al cl l1 x _ (Kd.S_reads' HT4.out).2.2 HLC.out HX.out).mono ?_; rintro e w5 ⟨vx, rfl, ho, hb⟩; obtain ⟨Ax, cx, rfl⟩ := Kd.S_slice ho; have HX5 := Aside0.mk (And.intro (Kd.S_reads' ho).2.2 (Kd.S_reads' ho).2.1); have HG5 := Aside0.mk (show RdAt w5 g v kd f vr full from blk_below HG4.out hb); have HV5 := Aside0.mk (Kd.R_below HV4.out hb); have HB5 := Aside0.mk (below_step HB4.out hb); have HS5 := Aside0.mk (Kd.S_below HS4.out hb); have HR5 := Aside0.mk (blk_below HR4.out hb); clear ho hb HG4 HV4 HB4 HS4 HT4 HR4)
  obtain ⟨ad, A9, c9, hA9, hx9, hl9, hC9⟩ := at_L2 (Kd.S_reads' HS5.out).2.2 (n : Int) (by omega) (by omega)
  subst hA9
  rw [← HN.out.2.2.1] at hx9 hl9 hC9
  rw [Int.toNat_natCast] at hx9
  have HC9 := Aside0.mk (And.intro hC9 hl9)
  have hlt9 := World.block_lt_of_cell? _ _ hx9
  have HX9 := Aside0.mk (And.intro hx9 hlt9)
  clear hl9 hC9 hcut hx9 hlt9
  have hx9 := HX9.out.1
  go_region_with (first
    | (go_at_call 19; refine (segment_footer.calls k Ax cx x ft _ (Kd.C_below HX5.out.1 (by repeat (first | exact Below.refl _ _ | apply below_drew1 | apply pw_below_drewN))) HX5.out.2 HFT.out).mono ?_; rintro e w6 ⟨v6, rfl, ho, hb⟩; obtain ⟨A6, c6, rfl⟩ := Kd.R_slice ho; have HF6 := Aside0.mk (And.intro (Kd.R_reads' ho).2.2 (Kd.R_reads' ho).2.1); have HB6 := Aside0.mk (below_step (by repeat (first | exact Below.refl _ _ | apply below_drew1 | apply pw_below_drewN)) hb : Below w5.heap.size w5 w6); have hx6 := (HB6.out.cell HX9.out.2).trans HX9.out.1; clear ho hb)
    | (go_at_call 42; refine (segment_framed.calls k A9 c9 dn fr _ (Kd.C_below HC9.out.1 (below_step HB6.out (by repeat (first | exact Below.refl _ _ | apply below_drew1 | apply pw_below_drewN)))) HC9.out.2 HFR.out).mono ?_; rintro e w7 ⟨v7, rfl, ho, hb⟩; obtain ⟨A7, c7, rfl⟩ := Kd.R_slice ho; have HF7 := Aside0.mk (And.intro (Kd.R_reads' ho).2.2 (Kd.R_reads' ho).2.1); have HB7 := Aside0.mk (below_step (below_step HB6.out (by repeat (first | exact Below.refl _ _ | apply below_drew1 | apply pw_below_drewN))) hb : Below w5.heap.size w5 w7); have HF67 := Aside0.mk (Kd.C_below HF6.out.1 (below_step (by repeat (first | exact Below.refl _ _ | apply below_drew1 | apply pw_below_drewN)) hb)); clear ho hb)
    | (go_at_call 49; refine (bytes_Equal.calls A6 c6 ft A7 c7 fr true _ (Kd.C_below HF67.out (by repeat (first | exact Below.refl _ _ | apply below_drew1 | apply pw_below_drewN))) HF6.out.2 (Kd.C_below HF7.out.1 (by repeat (first | exact Below.refl _ _ | apply below_drew1 | apply pw_below_drewN))) HF7.out.2 HE.out).mono ?_; rintro e w8 ⟨rfl, ⟨q, rfl⟩⟩))
  all_goals
    obtain ⟨Av, cv, hvr⟩ := Kd.R_slice HV5.out
    subst hvr
    have HG7 := Aside0.mk (show RdAt w7 g v kd f _ full from blk_below HG5.out HB7.out)
    have HR7 := Aside0.mk (blk_below HR5.out HB7.out)
    have HV7 := Aside0.mk (Kd.R_below HV5.out HB7.out)
    have hg := (fun i => blk_cell HG7.out i)
    have hr := (fun i => blk_cell HR7.out i)
    have hz := (fun i => blk_frozen HR7.out i)
    clear hx9 hx6
    go_wp2
    refine bodyPost_ret (results_ctt rfl _ _ w.heap.size 24 #[.int .i64 kd, .int .i64 f, .slice Av zs.length cv] (0, 0) _ rfl (seg_put3 (blk_drewN HR7.out q)) Tryz.underlying24 rfl (by kernel_rfl)) rfl ⟨.slice Av zs.length cv, .slice Ax x.length cx, rfl, ?_, ?_, Ax, x.length, cx, rfl⟩
    · exact seg_far3 (Kd.R_drewN HV7.out q) (blk_drewN HR7.out q)
    · exact seg_below3 (pw_below_drewN (below_step HB5.out HB7.out) q)
/-- What a call of Decode leaves. -/
def DecodedOf (w : World) (kd f : Int) (zs : List S62) (e : Ending) (w' : World) : Prop :=
  ∃ A c, e = .returned (.tuple #[.agg #[.int .i64 kd, .int .i64 f, .slice A zs.length c], .int .i64 0]) ∧ Kd.R k62 62 w' w.heap.size (fun _ => True) (.slice A zs.length c) zs ∧ Below w.heap.size w w'
set_option maxHeartbeats 8000000 in
set_option maxRecDepth 100000 in
theorem segment_Decode.calls (k : Nat) (A : Option Addr) (c : Nat) (b : List Int) (kd f : Int) (zs : List S62) (w : World) (hC : Kd.C (Kd.int .u8) w A b.length b) (hc : b.length ≤ c) (h : decodeF k b = some (kd, f, zs)) :
    Calls Tryz.prog 7 #[.slice A b.length c] w (DecodedOf w kd f zs) := by
  have hu24 := Tryz.underlying24
  have HC := Aside0.mk (And.intro hC (And.intro hc h))
  clear hC hc h
  go_enter Tryz.func7, Tryz.ntmps7
  go_upto_region 1 with fail
  obtain ⟨w1, hw1⟩ : ∃ w1, w1 = w.alloc (.cells #[.int .i64 0, .int .i64 0, .slice none 0 0] 24) := ⟨_, rfl⟩
  have HR1 := Aside0.mk (show w1.heap[w.heap.size]? = some (.cells #[.int .i64 0, .int .i64 0, .slice none 0 0] 24 (0, 0)) by rw [hw1]; exact blk_new w _)
  have HB1 := Aside0.mk (show Below w.heap.size w w1 by rw [hw1]; exact below_alloc (Below.refl _ _) _)
  rw [← hw1]
  clear hw1
  go_upto_region 2 with (go_at_call 20; refine (decode_calls k A c b kd f zs _ (Kd.C_below HC.out.1 HB1.out) HC.out.2.1 HC.out.2.2).mono ?_; rintro e w2 ⟨vr, vx, rfl, ho, hb, Ax, nx, cx, rfl⟩; obtain ⟨Av, cv, rfl⟩ := Kd.R_slice ho; have HV2 := Aside0.mk (Kd.R_lower ho (below_size HB1.out)); have HR2 := Aside0.mk (blk_below HR1.out hb); have HB2 := Aside0.mk (below_step HB1.out hb); clear ho hb)
  have HLT := Aside0.mk (blk_lt HR2.out)
  obtain ⟨w3, hw3⟩ : ∃ w3, w3 = w2.alloc (.cells #[.int .i64 kd, .int .i64 f, .slice Av zs.length cv] 24) := ⟨_, rfl⟩
  have HR3 := Aside0.mk (show w3.heap[w.heap.size]? = some (.cells #[.int .i64 0, .int .i64 0, .slice none 0 0] 24 (0, 0)) by rw [hw3]; exact blk_alloc HR2.out _)
  have HJ3 := Aside0.mk (show w3.heap[w2.heap.size]? = some (.cells #[.int .i64 kd, .int .i64 f, .slice Av zs.length cv] 24 (0, 0)) by rw [hw3]; exact blk_new w2 _)
  have HB3 := Aside0.mk (show Below w.heap.size w w3 by rw [hw3]; exact below_alloc HB2.out _)
  have HV3 := Aside0.mk (show Kd.R k62 62 w3 w.heap.size (fun _ => True) (.slice Av zs.length cv) zs by rw [hw3]; exact Kd.R_alloc HV2.out _)
  rw [← hw3]
  clear hw3
  have hr := (fun i => blk_cell HR3.out i)
  have hz := (fun i => blk_frozen HR3.out i)
  have hr2 := (fun i => blk_cell HJ3.out i)
  go_wp2
  refine bodyPost_ret (results_ct rfl _ _ w.heap.size 24 #[.int .i64 kd, .int .i64 f, .slice Av zs.length cv] (0, 0) _ rfl (seg_put3 HR3.out) Tryz.underlying24 rfl (by kernel_rfl)) rfl ⟨Av, cv, rfl, seg_far3 HV3.out HR3.out, seg_below3 HB3.out⟩
end Go.Proofs.YtgljebaiakhbfaaGreat.QTopUpgrades
