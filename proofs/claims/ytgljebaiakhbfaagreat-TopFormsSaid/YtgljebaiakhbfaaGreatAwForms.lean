/- What this text proves: what TopForms comes to, told by what its callees come to; conditions: the arguments' lists. -/
import Derived.Test.YtgljebaiakhbfaaGreatAwWorld
namespace Go.Proofs.YtgljebaiakhbfaaGreat.QTopForms
open Go.RowKit Go.Proofs.YtgljebaiakhbfaaGreatW.PrintWords Go.Proofs.YtgljebaiakhbfaaGreatW.PrintLast Go.Proofs.YtgljebaiakhbfaaGreatW.PrintMore Go.Proofs.YtgljebaiakhbfaaGreat.Aw
set_option linter.unusedVariables false
set_option maxRecDepth 100000
set_option maxHeartbeats 4000000
theorem eqOp (d : Nat) (w : World) (x0 y0 : Int) (x1 y1 : Int) (x2 y2 : Int) :
    (Op.equalIn (d + 2) 38 (.agg #[.int .i64 x0, .int .i64 x1, .int .i64 x2]) (.agg #[.int .i64 y0, .int .i64 y1, .int .i64 y2])).run Tryz.prog w = .ok (x0 == y0 && (x1 == y1 && (x2 == y2))) w := by
  refine eqA_of Tryz.underlying38 (by kernel_rfl) ?_
  refine eqf_cons (by rfl) (by go_simp; rfl) (by go_simp; rfl) (by go_simp) ?_
  refine eqf_cons (by rfl) (by go_simp; rfl) (by go_simp; rfl) (by go_simp) ?_
  exact eqf_last (by rfl) (by go_simp; rfl) (by go_simp; rfl) (by go_simp)
attribute [local go_sem high] eqOp
/-- Whether two texts are the same. -/
abbrev sameText (a b : List Int) : Bool := (strOfNums a).toList == (strOfNums b).toList
def ferrymantop_TopForms.f (k : Nat) (a0_0 : Int) (l0_1 : List Int) (a0_2 : Bool) (a0_3 : Int) (a1_0 : Int) (l1_1 : List Int) (a1_2 : Bool) (a1_3 : Int) (a2_0 a2_1 a2_2 a3_0 a3_1 a3_2 : Int) : Option Bool :=
  if l0_1.length > 300 ∨ l1_1.length > 300 then some true else
  (codec_EncodeState.f k a0_0 l0_1 a0_2 a0_3).bind fun a => (codec_EncodeState.f k a1_0 l1_1 a1_2 a1_3).bind fun b => (codec_PutOp.f k [] a2_0 a2_1 a2_2).bind fun c => (codec_PutOp.f k [] a3_0 a3_1 a3_2).bind fun d =>
    (objs_Same.f k a0_0 l0_1 a0_2 a0_3 a1_0 l1_1 a1_2 a1_3).bind fun sm =>
      if (a.2 = 0 → b.2 = 0 → sameText a.1 b.1 = sm) ∧ (c.2 = 0 → d.2 = 0 → (sameText c.1 d.1 == (a2_0 == a3_0 && (a2_1 == a3_1 && (a2_2 == a3_2)))) = true) then some true else none
theorem new4 (w : World) (o1 o2 o3 o4 : Obj) : ((((w.alloc o1).alloc o2).alloc o3).alloc o4).heap[w.heap.size + 1 + 1 + 1]? = some o4 := by
  have := blk_new (((w.alloc o1).alloc o2).alloc o3) o4
  rwa [World.size_alloc, World.size_alloc, World.size_alloc] at this
/-- The arguments in memory. -/
structure Args (W w : World) (a0_0 : Int) (A0_1 : Option Addr) (c0_1 n0 : Nat) (a0_2 : Bool) (a0_3 : Int) (a1_0 : Int) (A1_1 : Option Addr) (c1_1 n1 : Nat) (a1_2 : Bool) (a1_3 : Int) (a2_0 a2_1 a2_2 a3_0 a3_1 a3_2 : Int) : Prop where
  s : w.heap[W.heap.size]? = some (.cells #[.int .i64 a0_0, .slice A0_1 n0 c0_1, .bool a0_2, .int .i64 a0_3] 36 (0, 0))
  t : w.heap[W.heap.size + 1]? = some (.cells #[.int .i64 a1_0, .slice A1_1 n1 c1_1, .bool a1_2, .int .i64 a1_3] 36 (0, 0))
  o : w.heap[W.heap.size + 1 + 1]? = some (.cells #[.int .i64 a2_0, .int .i64 a2_1, .int .i64 a2_2] 38 (0, 0))
  p : w.heap[W.heap.size + 1 + 1 + 1]? = some (.cells #[.int .i64 a3_0, .int .i64 a3_1, .int .i64 a3_2] 38 (0, 0))
  below : Below W.heap.size W w
theorem Args.to {W w w1 : World} {a0_0 : Int} {A0_1 : Option Addr} {c0_1 n0 : Nat} {a0_2 : Bool} {a0_3 : Int} {a1_0 : Int} {A1_1 : Option Addr} {c1_1 n1 : Nat} {a1_2 : Bool} {a1_3 : Int} {a2_0 a2_1 a2_2 a3_0 a3_1 a3_2 : Int}
    (h : Args W w a0_0 A0_1 c0_1 n0 a0_2 a0_3 a1_0 A1_1 c1_1 n1 a1_2 a1_3 a2_0 a2_1 a2_2 a3_0 a3_1 a3_2) (hb : Below w.heap.size w w1) : Args W w1 a0_0 A0_1 c0_1 n0 a0_2 a0_3 a1_0 A1_1 c1_1 n1 a1_2 a1_3 a2_0 a2_1 a2_2 a3_0 a3_1 a3_2 :=
  ⟨blk_below h.s hb, blk_below h.t hb, blk_below h.o hb, blk_below h.p hb, below_step h.below hb⟩
theorem Args.held {W w : World} {a0_0 : Int} {A0_1 : Option Addr} {c0_1 n0 : Nat} {a0_2 : Bool} {a0_3 : Int} {a1_0 : Int} {A1_1 : Option Addr} {c1_1 n1 : Nat} {a1_2 : Bool} {a1_3 : Int} {a2_0 a2_1 a2_2 a3_0 a3_1 a3_2 : Int}
    (h : Args W w a0_0 A0_1 c0_1 n0 a0_2 a0_3 a1_0 A1_1 c1_1 n1 a1_2 a1_3 a2_0 a2_1 a2_2 a3_0 a3_1 a3_2) :
    w.cell? ⟨W.heap.size, 0, none⟩ = some (.int .i64 a0_0) ∧ w.cell? ⟨W.heap.size, 1, none⟩ = some (.slice A0_1 n0 c0_1) ∧ w.cell? ⟨W.heap.size, 2, none⟩ = some (.bool a0_2) ∧ w.cell? ⟨W.heap.size, 3, none⟩ = some (.int .i64 a0_3) ∧
    w.cell? ⟨W.heap.size + 1, 0, none⟩ = some (.int .i64 a1_0) ∧ w.cell? ⟨W.heap.size + 1, 1, none⟩ = some (.slice A1_1 n1 c1_1) ∧ w.cell? ⟨W.heap.size + 1, 2, none⟩ = some (.bool a1_2) ∧ w.cell? ⟨W.heap.size + 1, 3, none⟩ = some (.int .i64 a1_3) :=
  ⟨blk_cell h.s 0, blk_cell h.s 1, blk_cell h.s 2, blk_cell h.s 3, blk_cell h.t 0, blk_cell h.t 1, blk_cell h.t 2, blk_cell h.t 3⟩
theorem Args.held2 {W w : World} {a0_0 : Int} {A0_1 : Option Addr} {c0_1 n0 : Nat} {a0_2 : Bool} {a0_3 : Int} {a1_0 : Int} {A1_1 : Option Addr} {c1_1 n1 : Nat} {a1_2 : Bool} {a1_3 : Int} {a2_0 a2_1 a2_2 a3_0 a3_1 a3_2 : Int}
    (h : Args W w a0_0 A0_1 c0_1 n0 a0_2 a0_3 a1_0 A1_1 c1_1 n1 a1_2 a1_3 a2_0 a2_1 a2_2 a3_0 a3_1 a3_2) :
    w.cell? ⟨W.heap.size + 1 + 1, 0, none⟩ = some (.int .i64 a2_0) ∧ w.cell? ⟨W.heap.size + 1 + 1, 1, none⟩ = some (.int .i64 a2_1) ∧ w.cell? ⟨W.heap.size + 1 + 1, 2, none⟩ = some (.int .i64 a2_2) ∧
    w.cell? ⟨W.heap.size + 1 + 1 + 1, 0, none⟩ = some (.int .i64 a3_0) ∧ w.cell? ⟨W.heap.size + 1 + 1 + 1, 1, none⟩ = some (.int .i64 a3_1) ∧ w.cell? ⟨W.heap.size + 1 + 1 + 1, 2, none⟩ = some (.int .i64 a3_2) :=
  ⟨blk_cell h.o 0, blk_cell h.o 1, blk_cell h.o 2, blk_cell h.p 0, blk_cell h.p 1, blk_cell h.p 2⟩
theorem text_of {w : World} {A : Option Addr} {n c : Nat} {xs : List Int} (h : (Kd.int .u8).C w A n xs) : (convert 26 9 (.slice A n c)).run Tryz.prog w = .ok (.string (strOfNums xs)) w :=
  Kd.C_string Tryz.underlying26 Tryz.underlying5 Tryz.underlying9 h
theorem forms_walk (k : Nat) (a0_0 : Int) (A0_1 : Option Addr) (c0_1 : Nat) (l0_1 : List Int) (a0_2 : Bool) (a0_3 : Int) (a1_0 : Int) (A1_1 : Option Addr) (c1_1 : Nat) (l1_1 : List Int) (a1_2 : Bool) (a1_3 : Int) (a2_0 a2_1 a2_2 a3_0 a3_1 a3_2 : Int) (w : World)
    (hr0_1 : Kd.C (Kd.int .i64) w A0_1 l0_1.length l0_1) (hc0_1 : l0_1.length ≤ c0_1) (hr1_1 : Kd.C (Kd.int .i64) w A1_1 l1_1.length l1_1) (hc1_1 : l1_1.length ≤ c1_1) (hl0 : l0_1.length ≤ 300) (hl1 : l1_1.length ≤ 300)
    (ra rb rc rd : List Int) (ea eb ec ed : Int) (sm : Bool) (ha : codec_EncodeState.f k a0_0 l0_1 a0_2 a0_3 = some (ra, ea)) (hb : codec_EncodeState.f k a1_0 l1_1 a1_2 a1_3 = some (rb, eb)) (hc : codec_PutOp.f k [] a2_0 a2_1 a2_2 = some (rc, ec)) (hd : codec_PutOp.f k [] a3_0 a3_1 a3_2 = some (rd, ed))
    (hs : objs_Same.f k a0_0 l0_1 a0_2 a0_3 a1_0 l1_1 a1_2 a1_3 = some sm) (h1 : ea = 0 → eb = 0 → sameText ra rb = sm) (h2 : ec = 0 → ed = 0 → (sameText rc rd == (a2_0 == a3_0 && (a2_1 == a3_1 && (a2_2 == a3_2)))) = true) :
    Calls Tryz.prog 4 #[.agg #[.int .i64 a0_0, .slice A0_1 l0_1.length c0_1, .bool a0_2, .int .i64 a0_3], .agg #[.int .i64 a1_0, .slice A1_1 l1_1.length c1_1, .bool a1_2, .int .i64 a1_3], .agg #[.int .i64 a2_0, .int .i64 a2_1, .int .i64 a2_2], .agg #[.int .i64 a3_0, .int .i64 a3_1, .int .i64 a3_2]] w fun e w' => e = .returned (.bool true) ∧ Below w.heap.size w w' := by
  have HA := Aside0.mk (And.intro hr0_1 (And.intro hc0_1 (And.intro hr1_1 hc1_1)))
  have HE := Aside0.mk (And.intro ha (And.intro hb (And.intro hc (And.intro hd hs))))
  have HL := Aside0.mk (And.intro h1 h2)
  have d0 : decide (300 < (l0_1.length : Int)) = false := decide_eq_false (by omega)
  have d0' : decide (300 < l0_1.length) = false := decide_eq_false (by omega)
  have d1 : decide (300 < (l1_1.length : Int)) = false := decide_eq_false (by omega)
  have d1' : decide (300 < l1_1.length) = false := decide_eq_false (by omega)
  clear hr0_1 hc0_1 hr1_1 hc1_1 ha hb hc hd hs h1 h2 hl0 hl1
  go_enter Tryz.func4, Tryz.ntmps4
  go_upto_region 1 with fail
  refine cont (fun w1 => Args w w1 a0_0 A0_1 c0_1 l0_1.length a0_2 a0_3 a1_0 A1_1 c1_1 l1_1.length a1_2 a1_3 a2_0 a2_1 a2_2 a3_0 a3_1 a3_2) ⟨blk_alloc (blk_alloc (blk_alloc (blk_new w _) _) _) _, blk_alloc (blk_alloc (new2 w _ _) _) _, blk_alloc (new3 w _ _ _) _, new4 w _ _ _ _, by (repeat (first | (with_reducible exact Below.refl _ _) | (with_reducible apply below_alloc) | (with_reducible apply below_drew1) | (with_reducible apply pw_below_drewN)))⟩ ?_
  rintro w1 hw1
  go_upto_region 4 with (go_at_call 5; refine (awake_calls _).mono ?_; rintro e w2 ⟨rfl, hb⟩; have H2 := Aside0.mk (hw1.to hb); have hcs := (fun i => blk_cell H2.out.s i); have hct := (fun i => blk_cell H2.out.t i); have hds := (fun i => blk_frozen H2.out.s i); have hdt := (fun i => blk_frozen H2.out.t i); clear hb)
  clear hw1
  have tok1 : True := trivial
  have tok2 : True := trivial
  have tok3 : True := trivial
  go_upto_region 8 with (first
    | (go_at_call 9; clear tok1; refine (codec_EncodeState.calls k a0_0 A0_1 c0_1 l0_1 a0_2 a0_3 ra ea _ (Kd.C_below HA.out.1 H2.out.below) HA.out.2.1 HE.out.1).mono ?_; rintro e w3 ⟨va, rfl, ho, hb⟩; obtain ⟨Aa, ca, rfl⟩ := Kd.R_slice ho; have H3 := Aside0.mk (H2.out.to hb); have HCa := Aside0.mk (Kd.R_reads' ho).2.2; have hct := (fun i => blk_cell H3.out.t i); have hdt := (fun i => blk_frozen H3.out.t i); clear hb ho hcs hds)
    | (go_at_call 9; clear tok2; refine (codec_EncodeState.calls k a1_0 A1_1 c1_1 l1_1 a1_2 a1_3 rb eb _ (Kd.C_below HA.out.2.2.1 H3.out.below) HA.out.2.2.2 HE.out.2.1).mono ?_; rintro e w4 ⟨vb, rfl, ho, hb⟩; obtain ⟨Ab, cb, rfl⟩ := Kd.R_slice ho; have H4 := Aside0.mk (H3.out.to hb); have HCb := Aside0.mk (And.intro (Kd.C_below HCa.out hb) (Kd.R_reads' ho).2.2); have hco := (fun i => blk_cell H4.out.o i); have hdo := (fun i => blk_frozen H4.out.o i); clear hb ho hct hdt HCa)
    | (go_at_call 10; clear tok3; refine (codec_PutOp.calls k (fun _ => False) (.slice none 0 0) [] a2_0 a2_1 a2_2 rc ec w4 w4 (Below.refl _ _) (Kd.R_nil _ _ _ _ _) HE.out.2.2.1).mono ?_; rintro e w5 ⟨vc, rfl, ho, hb, hk⟩; obtain ⟨Ac, cc, rfl⟩ := Kd.R_slice ho; have H5 := Aside0.mk (H4.out.to hb); have HCc := Aside0.mk (And.intro (Kd.C_below HCb.out.1 hb) (And.intro (Kd.C_below HCb.out.2 hb) (Kd.R_reads' ho).2.2)); have hcp := (fun i => blk_cell H5.out.p i); have hdp := (fun i => blk_frozen H5.out.p i); clear hb ho hk hco hdo HCb)
    | (go_at_call 10; refine (codec_PutOp.calls k (fun _ => False) (.slice none 0 0) [] a3_0 a3_1 a3_2 rd ed w5 w5 (Below.refl _ _) (Kd.R_nil _ _ _ _ _) HE.out.2.2.2.1).mono ?_; rintro e w6 ⟨vd, rfl, ho, hb, hk⟩; obtain ⟨Ad, cd, rfl⟩ := Kd.R_slice ho; have H6 := Aside0.mk (H5.out.to hb); have HC := Aside0.mk (And.intro (Kd.C_below HCc.out.1 hb) (And.intro (Kd.C_below HCc.out.2.1 hb) (And.intro (Kd.C_below HCc.out.2.2 hb) (Kd.R_reads' ho).2.2))); clear hb ho hk hcp hdp HCc))
  go_cut [70] (fun v70 w7 => v70 = .bool false ∧ Args w w7 a0_0 A0_1 c0_1 l0_1.length a0_2 a0_3 a1_0 A1_1 c1_1 l1_1.length a1_2 a1_3 a2_0 a2_1 a2_2 a3_0 a3_1 a3_2 ∧ Kd.C (Kd.int .u8) w7 Ac rc.length rc ∧ Kd.C (Kd.int .u8) w7 Ad rd.length rd)
  case first =>
    by_cases hea : ea = 0
    · subst hea
      by_cases heb : eb = 0
      · subst heb
        have hx := HL.out.1 rfl rfl
        unfold sameText at hx
        have hcv := And.intro (text_of (c := ca) HC.out.1) (text_of (c := cb) HC.out.2.1)
        have hh := H6.out.held
        have hn : sm ≠ !sm := by cases sm <;> decide
        go_region_held3 (fun w' => (w'.cell? ⟨w.heap.size, 0, none⟩ = some (.int .i64 a0_0) ∧ w'.cell? ⟨w.heap.size, 1, none⟩ = some (.slice A0_1 l0_1.length c0_1) ∧ w'.cell? ⟨w.heap.size, 2, none⟩ = some (.bool a0_2) ∧ w'.cell? ⟨w.heap.size, 3, none⟩ = some (.int .i64 a0_3) ∧
            w'.cell? ⟨w.heap.size + 1, 0, none⟩ = some (.int .i64 a1_0) ∧ w'.cell? ⟨w.heap.size + 1, 1, none⟩ = some (.slice A1_1 l1_1.length c1_1) ∧ w'.cell? ⟨w.heap.size + 1, 2, none⟩ = some (.bool a1_2) ∧ w'.cell? ⟨w.heap.size + 1, 3, none⟩ = some (.int .i64 a1_3)) ∧
            (convert 26 9 (.slice Aa ra.length ca)).run Tryz.prog w' = .ok (.string (strOfNums ra)) w' ∧ (convert 26 9 (.slice Ab rb.length cb)).run Tryz.prog w' = .ok (.string (strOfNums rb)) w')
          (first | exact ⟨H7.out.held, text_of (Kd.C_below HC.out.1 HB7.out), text_of (Kd.C_below HC.out.2.1 HB7.out)⟩ | exact ⟨(H6.out.to (by (repeat (first | exact Below.refl _ _ | apply below_drew1 | apply pw_below_drewN)))).held, text_of (Kd.C_below HC.out.1 (by (repeat (first | exact Below.refl _ _ | apply below_drew1 | apply pw_below_drewN)))), text_of (Kd.C_below HC.out.2.1 (by (repeat (first | exact Below.refl _ _ | apply below_drew1 | apply pw_below_drewN))))⟩ | fail)
          (first | (go_at_call 11; refine (objs_Same.calls k a0_0 A0_1 c0_1 l0_1 a0_2 a0_3 a1_0 A1_1 c1_1 l1_1 a1_2 a1_3 sm _ (Kd.C_below HA.out.1 (below_step H6.out.below (by (repeat (first | exact Below.refl _ _ | apply below_drew1 | apply pw_below_drewN))))) HA.out.2.1 (Kd.C_below HA.out.2.2.1 (below_step H6.out.below (by (repeat (first | exact Below.refl _ _ | apply below_drew1 | apply pw_below_drewN))))) HA.out.2.2.2 HE.out.2.2.2.2).mono ?_; rintro e w7 ⟨rfl, hb⟩; have HB7 := Aside0.mk (below_step (by (repeat (first | exact Below.refl _ _ | apply below_drew1 | apply pw_below_drewN))) hb : Below w6.heap.size w6 w7); have H7 := Aside0.mk (H6.out.to HB7.out); clear hb))
        go_wp2_with fail
        go_meet
        case rel => exact ⟨by first | rfl | (simp; done) | (simp [hx]; done), H7.out, Kd.C_below HC.out.2.2.1 HB7.out, Kd.C_below HC.out.2.2.2 HB7.out⟩
      · have e1 : (eb == 0) = false := by simpa using heb
        have e2 : decide (eb = 0) = false := decide_eq_false heb
        clear heb
        go_quiet (fail)
        go_wp2_with fail
        go_meet
        case rel => exact ⟨by first | rfl | (simp; done) | (simp [*]; done), H6.out.to (by (repeat (first | exact Below.refl _ _ | apply below_drew1 | apply pw_below_drewN))), Kd.C_below HC.out.2.2.1 (by (repeat (first | exact Below.refl _ _ | apply below_drew1 | apply pw_below_drewN))), Kd.C_below HC.out.2.2.2 (by (repeat (first | exact Below.refl _ _ | apply below_drew1 | apply pw_below_drewN)))⟩
    · have e1 : (ea == 0) = false := by simpa using hea
      have e2 : decide (ea = 0) = false := decide_eq_false hea
      clear hea
      go_quiet (fail)
      go_wp2_with fail
      go_meet
      case rel => exact ⟨by first | rfl | (simp; done) | (simp [*]; done), H6.out.to (by (repeat (first | exact Below.refl _ _ | apply below_drew1 | apply pw_below_drewN))), Kd.C_below HC.out.2.2.1 (by (repeat (first | exact Below.refl _ _ | apply below_drew1 | apply pw_below_drewN))), Kd.C_below HC.out.2.2.2 (by (repeat (first | exact Below.refl _ _ | apply below_drew1 | apply pw_below_drewN)))⟩
  case rest =>
    obtain ⟨rfl, hA7, hC7, hD7⟩ := hcut
    go_upto_region 10 with fail
    have HD := Aside0.mk (And.intro hA7 (And.intro hC7 hD7))
    clear hA7 hC7 hD7
    by_cases hec : ec = 0
    · subst hec
      by_cases hed : ed = 0
      · subst hed
        have hx := HL.out.2 rfl rfl
        unfold sameText at hx
        have hcv := And.intro (text_of (c := cc) HD.out.2.1) (text_of (c := cd) HD.out.2.2)
        have hh := HD.out.1.held2
        go_region_held3 (fun w' => (w'.cell? ⟨w.heap.size + 1 + 1, 0, none⟩ = some (.int .i64 a2_0) ∧ w'.cell? ⟨w.heap.size + 1 + 1, 1, none⟩ = some (.int .i64 a2_1) ∧ w'.cell? ⟨w.heap.size + 1 + 1, 2, none⟩ = some (.int .i64 a2_2) ∧
            w'.cell? ⟨w.heap.size + 1 + 1 + 1, 0, none⟩ = some (.int .i64 a3_0) ∧ w'.cell? ⟨w.heap.size + 1 + 1 + 1, 1, none⟩ = some (.int .i64 a3_1) ∧ w'.cell? ⟨w.heap.size + 1 + 1 + 1, 2, none⟩ = some (.int .i64 a3_2)) ∧
            (convert 26 9 (.slice Ac rc.length cc)).run Tryz.prog w' = .ok (.string (strOfNums rc)) w' ∧ (convert 26 9 (.slice Ad rd.length cd)).run Tryz.prog w' = .ok (.string (strOfNums rd)) w')
          (first | exact ⟨(HD.out.1.to (by (repeat (first | exact Below.refl _ _ | apply below_drew1 | apply pw_below_drewN)))).held2, text_of (Kd.C_below HD.out.2.1 (by (repeat (first | exact Below.refl _ _ | apply below_drew1 | apply pw_below_drewN)))), text_of (Kd.C_below HD.out.2.2 (by (repeat (first | exact Below.refl _ _ | apply below_drew1 | apply pw_below_drewN))))⟩ | fail)
          (first | fail)
        go_wp2
        go_ret
        exact ⟨by first | rfl | (simp; done) | (simp [hx]; done), below_step HD.out.1.below (by (repeat (first | exact Below.refl _ _ | apply below_drew1 | apply pw_below_drewN)))⟩
      · have e1 : (ed == 0) = false := by simpa using hed
        have e2 : decide (ed = 0) = false := decide_eq_false hed
        have e3 : (ed != 0) = true := by simpa using hed
        have e4 : decide (ed ≠ 0) = true := decide_eq_true hed
        clear hed
        go_quiet (fail)
        go_wp2
        go_ret
        exact ⟨by first | rfl | (simp; done) | (simp [*]; done), below_step HD.out.1.below (by (repeat (first | exact Below.refl _ _ | apply below_drew1 | apply pw_below_drewN)))⟩
    · have e1 : (ec == 0) = false := by simpa using hec
      have e2 : decide (ec = 0) = false := decide_eq_false hec
      have e3 : (ec != 0) = true := by simpa using hec
      have e4 : decide (ec ≠ 0) = true := decide_eq_true hec
      clear hec
      go_quiet (fail)
      go_wp2
      go_ret
      exact ⟨by first | rfl | (simp; done) | (simp [*]; done), below_step HD.out.1.below (by (repeat (first | exact Below.refl _ _ | apply below_drew1 | apply pw_below_drewN)))⟩
theorem forms_long (a0_0 : Int) (A0_1 : Option Addr) (c0_1 : Nat) (l0_1 : List Int) (a0_2 : Bool) (a0_3 : Int) (a1_0 : Int) (A1_1 : Option Addr) (c1_1 : Nat) (l1_1 : List Int) (a1_2 : Bool) (a1_3 : Int) (a2_0 a2_1 a2_2 a3_0 a3_1 a3_2 : Int) (w : World) (h : l0_1.length > 300 ∨ l1_1.length > 300) :
    Calls Tryz.prog 4 #[.agg #[.int .i64 a0_0, .slice A0_1 l0_1.length c0_1, .bool a0_2, .int .i64 a0_3], .agg #[.int .i64 a1_0, .slice A1_1 l1_1.length c1_1, .bool a1_2, .int .i64 a1_3], .agg #[.int .i64 a2_0, .int .i64 a2_1, .int .i64 a2_2], .agg #[.int .i64 a3_0, .int .i64 a3_1, .int .i64 a3_2]] w fun e w' => e = .returned (.bool true) ∧ Below w.heap.size w w' := by
  by_cases h0 : l0_1.length > 300
  · have d0 : decide (300 < (l0_1.length : Int)) = true := decide_eq_true (by omega)
    have d0' : decide (300 < l0_1.length) = true := decide_eq_true (by omega)
    clear h h0
    go_enter Tryz.func4, Tryz.ntmps4
    go_upto_region 1 with fail
    refine cont (fun w1 => Args w w1 a0_0 A0_1 c0_1 l0_1.length a0_2 a0_3 a1_0 A1_1 c1_1 l1_1.length a1_2 a1_3 a2_0 a2_1 a2_2 a3_0 a3_1 a3_2) ⟨blk_alloc (blk_alloc (blk_alloc (blk_new w _) _) _) _, blk_alloc (blk_alloc (new2 w _ _) _) _, blk_alloc (new3 w _ _ _) _, new4 w _ _ _ _, by (repeat (first | (with_reducible exact Below.refl _ _) | (with_reducible apply below_alloc) | (with_reducible apply below_drew1) | (with_reducible apply pw_below_drewN)))⟩ ?_
    rintro w1 hw1
    go_wp2_with (go_at_call 5; refine (awake_calls _).mono ?_; rintro e w2 ⟨rfl, hb⟩; have H2 := Aside0.mk (hw1.to hb); have hcs := (fun i => blk_cell H2.out.s i); have hct := (fun i => blk_cell H2.out.t i); have hds := (fun i => blk_frozen H2.out.s i); have hdt := (fun i => blk_frozen H2.out.t i); clear hb)
    go_ret
    exact ⟨rfl, H2.out.below⟩
  · have h1 : l1_1.length > 300 := h.resolve_left h0
    have d0 : decide (300 < (l0_1.length : Int)) = false := decide_eq_false (by omega)
    have d0' : decide (300 < l0_1.length) = false := decide_eq_false (by omega)
    have d1 : decide (300 < (l1_1.length : Int)) = true := decide_eq_true (by omega)
    have d1' : decide (300 < l1_1.length) = true := decide_eq_true (by omega)
    clear h h0 h1
    go_enter Tryz.func4, Tryz.ntmps4
    go_upto_region 1 with fail
    refine cont (fun w1 => Args w w1 a0_0 A0_1 c0_1 l0_1.length a0_2 a0_3 a1_0 A1_1 c1_1 l1_1.length a1_2 a1_3 a2_0 a2_1 a2_2 a3_0 a3_1 a3_2) ⟨blk_alloc (blk_alloc (blk_alloc (blk_new w _) _) _) _, blk_alloc (blk_alloc (new2 w _ _) _) _, blk_alloc (new3 w _ _ _) _, new4 w _ _ _ _, by (repeat (first | (with_reducible exact Below.refl _ _) | (with_reducible apply below_alloc) | (with_reducible apply below_drew1) | (with_reducible apply pw_below_drewN)))⟩ ?_
    rintro w1 hw1
    go_wp2_with (go_at_call 5; refine (awake_calls _).mono ?_; rintro e w2 ⟨rfl, hb⟩; have H2 := Aside0.mk (hw1.to hb); have hcs := (fun i => blk_cell H2.out.s i); have hct := (fun i => blk_cell H2.out.t i); have hds := (fun i => blk_frozen H2.out.s i); have hdt := (fun i => blk_frozen H2.out.t i); clear hb)
    go_ret
    exact ⟨rfl, H2.out.below⟩
theorem ferrymantop_TopForms.calls (k : Nat) (a0_0 : Int) (A0_1 : Option Addr) (c0_1 : Nat) (l0_1 : List Int) (a0_2 : Bool) (a0_3 : Int) (a1_0 : Int) (A1_1 : Option Addr) (c1_1 : Nat) (l1_1 : List Int) (a1_2 : Bool) (a1_3 : Int) (a2_0 a2_1 a2_2 a3_0 a3_1 a3_2 : Int) (r : Bool) (w : World)
    (hr0_1 : Kd.C (Kd.int .i64) w A0_1 l0_1.length l0_1) (hc0_1 : l0_1.length ≤ c0_1) (hr1_1 : Kd.C (Kd.int .i64) w A1_1 l1_1.length l1_1) (hc1_1 : l1_1.length ≤ c1_1) (h : ferrymantop_TopForms.f k a0_0 l0_1 a0_2 a0_3 a1_0 l1_1 a1_2 a1_3 a2_0 a2_1 a2_2 a3_0 a3_1 a3_2 = some r) :
    Calls Tryz.prog 4 #[.agg #[.int .i64 a0_0, .slice A0_1 l0_1.length c0_1, .bool a0_2, .int .i64 a0_3], .agg #[.int .i64 a1_0, .slice A1_1 l1_1.length c1_1, .bool a1_2, .int .i64 a1_3], .agg #[.int .i64 a2_0, .int .i64 a2_1, .int .i64 a2_2], .agg #[.int .i64 a3_0, .int .i64 a3_1, .int .i64 a3_2]] w fun e w' => e = .returned (.bool r) ∧ Below w.heap.size w w' := by
  unfold ferrymantop_TopForms.f at h
  split at h
  case isTrue hl =>
    obtain rfl := Option.some.inj h
    exact forms_long _ _ _ _ _ _ _ _ _ _ _ _ _ _ _ _ _ _ w hl
  case isFalse hl =>
    obtain ⟨⟨ra, ea⟩, ha, h⟩ := Option.bind_eq_some_iff.mp h
    obtain ⟨⟨rb, eb⟩, hb, h⟩ := Option.bind_eq_some_iff.mp h
    obtain ⟨⟨rc, ec⟩, hc, h⟩ := Option.bind_eq_some_iff.mp h
    obtain ⟨⟨rd, ed⟩, hd, h⟩ := Option.bind_eq_some_iff.mp h
    obtain ⟨sm, hs, h⟩ := Option.bind_eq_some_iff.mp h
    split at h
    case isTrue hx =>
      obtain rfl := Option.some.inj h
      exact forms_walk k _ _ _ _ _ _ _ _ _ _ _ _ _ _ _ _ _ _ w hr0_1 hc0_1 hr1_1 hc1_1 (by omega) (by omega) ra rb rc rd ea eb ec ed sm ha hb hc hd hs hx.1 hx.2
    case isFalse => cases h
end Go.Proofs.YtgljebaiakhbfaaGreat.QTopForms
