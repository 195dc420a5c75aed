/- What this text proves: what a disk's Append does at an empty disk; condition: the blocks. -/
import Derived.Test.YtgljebaiakhbfaaGreatAwDisk
import Derived.Deep.DeepCutAuto
namespace Go.Proofs.YtgljebaiakhbfaaGreat.Aw
open Go.RowKit Go.Maps Go.Sort Go.Shelf Go.Proofs Go.Proofs.YtgljebaiakhbfaaGreatW.PrintWords Go.Proofs.YtgljebaiakhbfaaGreatW.PrintLast Go.Proofs.YtgljebaiakhbfaaGreatW.PrintMore
set_option linter.unusedVariables false
set_option maxRecDepth 100000
set_option maxHeartbeats 4000000
theorem infoB : (Tryz.prog.info? 5).map (fun i => (i.zero, i.size, i.bytes)) = some (some (.int .u8 0), 1, 1) := by kernel_rfl
theorem Row.kept {sz e : Nat} {w w' : World} {v : Value} {rows : List (List Value)} {S : Nat → Prop} (h : Row sz e w v rows) (hk : Kept w w' S) (hS : ∀ k cells, w.heap[k]? = some (.cells cells e (0, 0)) → ¬ S k) : Row sz e w' v rows :=
  Kd.R_mono (Kd.R_kept (Kd.R_bound h) hk (fun k hk => by
    obtain ⟨_, _, _, q, hq, cells, hc⟩ := hk
    have : q = e := by simpa [Kd.raw] using hq
    subst this
    exact hS k cells hc)) (fun _ _ => trivial)
theorem row_of_R {α : Type} {d : Kd α} {e : Nat} {w : World} {base : Nat} {ok : Nat → Prop} {v : Value} {xs : List α} (h : d.R e w base ok v xs) : ∃ rows, rows.length = xs.length ∧ Row d.sz e w v rows := by
  obtain ⟨_, rows, hl, hR, _⟩ := Kd.R_N h
  exact ⟨rows, hl, Kd.R_lower (Kd.raw_any hR) (Nat.zero_le _)⟩
/-- A disk's file, put. -/
theorem disk_append (d M : Nat) (A : Option Addr) (n c : Nat) (rows : List (List Value)) (kept left : Value) (w : World)
    (hD : DiskAt w d (.int .i64 10000) kept (.map (some M)) (.slice none 0 0) (.bool false) (.bool false) left) (hM : w.heap[M]? = some (.map #[] 0)) (hC : Row 1 5 w (.slice A n c) rows) (hn : n ≤ 9000) :
    Calls Tryz.prog 71 #[.pointer (some ⟨d, 0, none⟩), .int .i64 2, .slice A n c] w fun e w' => e = .returned (.int .i64 0) ∧ Below 0 w w' ∧ Kept w w' (fun k => k = d ∨ k = M) := by
  have HD := Aside0.mk hD
  have HM := Aside0.mk hM
  have HC := Aside0.mk hC
  have hc := fun i => blk_cell hD i
  have hd := fun i => blk_frozen hD i
  have hlt := blk_lt hD
  have hne := Nat.ne_of_lt hlt
  clear hD hM hC
  go_enter Tryz.func71, Tryz.ntmps71
  go_upto_region 5 with (go_at_call 110; refine (QTopForms.files_may.calls 2 true _ rfl).mono ?_; rintro e w1 ⟨rfl, hb⟩; obtain ⟨⟨nq, rfl⟩⟩ := hb)
  obtain ⟨wb, hwb⟩ : ∃ wb, ((w.alloc (.cells #[.int .i64 2] 3)).drewN nq) = wb := ⟨_, rfl⟩
  have hN : wb.heap[w.heap.size]? = some (.cells #[.int .i64 2] 3 (0, 0)) := by rw [← hwb]; exact blk_new w _
  have hBb : Below w.heap.size w wb := by rw [← hwb]; (repeat (first | (with_reducible exact Below.refl _ _) | (with_reducible apply below_alloc) | (with_reducible apply below_drew1) | (with_reducible apply pw_below_drewN)))
  rw [hwb]
  clear hwb
  have hDb := blk_below HD.out hBb
  have hMb := blk_below HM.out hBb
  have HCb := Aside0.mk (HC.out.below hBb)
  have HBb := Aside0.mk hBb
  have hcb := fun i => blk_cell hDb i
  have hdb := fun i => blk_frozen hDb i
  have hcn := fun i => blk_cell hN i
  have hdn := fun i => blk_frozen hN i
  have hlb := blk_lt hDb
  have hMlt := blk_lt HM.out
  have hDM : d ≠ M := fun h => by
    have h1 := HD.out
    rw [h] at h1
    have := h1.symm.trans HM.out
    simp at this
  have HD' := Aside0.mk hDb
  have HM' := Aside0.mk hMb
  clear HC HM HD hc hd hBb hMb
  go_cut [18] (fun v18 wc => v18 = .bool false ∧ Below wb.heap.size wb wc)
  case first =>
    have hu := fun W (h : Below wb.heap.size wb W) => used_calls d M _ _ _ _ _ _ W (blk_below HD'.out h) (blk_below HM'.out h)
    have hw0 : IntKind.i64.wrap (n : Int) = n := by rw [i64_w]; unfold wrap64; omega
    have hw1 : decide ((10000 : Int) < (n : Int)) = false := decide_eq_false (by omega)
    have hw2 : decide ((n : Int) > (10000 : Int)) = false := decide_eq_false (by omega)
    have hw3 : ¬ ((10000 : Int) < (n : Int)) := by omega
    go_region_with (go_at_call 111; refine (hu _ (by (repeat (first | exact Below.refl _ _ | apply below_drew1 | apply pw_below_drewN)))).mono ?_; rintro e w1 ⟨rfl, hb⟩; replace hb := below_step (w := wb) (by (repeat (first | exact Below.refl _ _ | apply below_drew1 | apply pw_below_drewN))) hb; have hD1 := blk_below hDb hb; have hc1 := (fun i => blk_cell hD1 i); have hd1 := (fun i => blk_frozen hD1 i))
    all_goals (go_wp2_with fail)
    all_goals go_meet
    all_goals (case rel => exact ⟨rfl, by first | exact hb | assumption⟩)
  case rest =>
    obtain ⟨rfl, hbc⟩ := hcut
    have hDc := blk_below HD'.out hbc
    have hMc := blk_below HM'.out hbc
    have hNc := blk_below hN hbc
    have HCc := Aside0.mk (HCb.out.below hbc)
    have HBc := Aside0.mk (below_step HBb.out hbc)
    have HMc := Aside0.mk hMc
    clear hDb hN hcb hdb hcn hdn HD' HM' HCb HBb hbc hlb
    have hcb := fun i => blk_cell hDc i
    have hdb := fun i => blk_frozen hDc i
    have hcn := fun i => blk_cell hNc i
    have hdn := fun i => blk_frozen hNc i
    have hlk := fun n => look_empty (w := wc.drewN n) (blk_drewN hMc n)
    have hlk0 := look_empty (w := wc) hMc
    have hlk1 := look_empty (w := wc.drew) (blk_drew hMc)
    go_wp2
    go_quiet (fail)
    go_upto_region 9 with fail
    obtain ⟨wd, hwd⟩ : ∃ wd, (((wc.drewN nq).alloc (.cells #[.slice none 0 0, .int .i64 0] 157)).alloc (.cells #[.pointer (some ⟨wc.heap.size, 0, none⟩)] 153)) = wd := ⟨_, rfl⟩
    have hDd : DiskAt wd d (.int .i64 10000) kept (.map (some M)) (.slice none 0 0) (.bool false) (.bool false) left := by rw [← hwd]; (repeat (first | (with_reducible exact hDc) | (with_reducible apply blk_alloc) | (with_reducible apply blk_drew) | (with_reducible apply blk_drewN) | (with_reducible apply blk_set) | ((with_reducible apply blk_far2); (focus (first | omega | (simp; done) | (simp; omega))))))
    have hMd : wd.heap[M]? = some (.map #[] 0) := by rw [← hwd]; (repeat (first | (with_reducible exact hMc) | (with_reducible apply blk_alloc) | (with_reducible apply blk_drew) | (with_reducible apply blk_drewN) | (with_reducible apply blk_set) | ((with_reducible apply blk_far2); (focus (first | omega | (simp; done) | (simp; omega))))))
    have hNd : wd.heap[w.heap.size]? = some (.cells #[.int .i64 2] 3 (0, 0)) := by rw [← hwd]; (repeat (first | (with_reducible exact hNc) | (with_reducible apply blk_alloc) | (with_reducible apply blk_drew) | (with_reducible apply blk_drewN) | (with_reducible apply blk_set) | ((with_reducible apply blk_far2); (focus (first | omega | (simp; done) | (simp; omega))))))
    have hfd : wd.heap[wc.heap.size]? = some (.cells #[.slice none 0 0, .int .i64 0] 157 (0, 0)) := by rw [← hwd]; exact blk_alloc (blk_new (wc.drewN nq) _) _
    have hFd : wd.heap[wc.heap.size + 1]? = some (.cells #[.pointer (some ⟨wc.heap.size, 0, none⟩)] 153 (0, 0)) := by rw [← hwd]; have := blk_new ((wc.drewN nq).alloc (.cells #[.slice none 0 0, .int .i64 0] 157)) (.cells #[.pointer (some ⟨wc.heap.size, 0, none⟩)] 153); rwa [World.size_alloc] at this
    have HBd0 : Below wc.heap.size wc wd := by rw [← hwd]; (repeat (first | (with_reducible exact Below.refl _ _) | (with_reducible apply below_alloc) | (with_reducible apply below_drew1) | (with_reducible apply pw_below_drewN)))
    have HCd := Aside0.mk (HCc.out.below HBd0)
    have HBd := Aside0.mk (below_step HBc.out HBd0)
    have hlc := HBc.out.size
    have hlN := blk_lt hNc
    rw [hwd]
    clear hwd hDc hMc hNc HCc HBc HMc hcb hdb hcn hdn hlk hlk0 hlk1 HBd0
    have hcb := fun i => blk_cell hDd i
    have hdb := fun i => blk_frozen hDd i
    have hcn := fun i => blk_cell hNd i
    have hdn := fun i => blk_frozen hNd i
    go_upto_region 10 with (go_at_call 108; refine (change_calls d M (wc.heap.size + 1) w.heap.size wc.heap.size _ _ _ _ _ _ hDd hMd hFd hNd).mono ?_; rintro e we ⟨rfl, ⟨A2, n2, c2, hDe⟩, hMe, hze, hke⟩; have hce := (fun i => blk_cell hDe i); have hde := (fun i => blk_frozen hDe i); have hNe := blk_kept hNd hke (by omega); have hfe := blk_kept hfd hke (by omega); have hcne := (fun i => blk_cell hNe i); have hdne := (fun i => blk_frozen hNe i); have hcfe := (fun i => blk_cell hfe i); have hdfe := (fun i => blk_frozen hfe i); have HKE := Aside0.mk hke; have HZE := Aside0.mk hze; clear hke hze)
    have HCe := Aside0.mk (HCd.out.kept HKE.out (fun k cells hk h => by
      rcases h with rfl | rfl
      · have := hk.symm.trans hDd; simp at this
      · have := hk.symm.trans hMd; simp at this))
    have HBe := Aside0.mk (HZE.out)
    have HKe := Aside0.mk (((Kept.of_below HBd.out (fun k => k = d ∨ k = M)).then_ HKE.out (fun k hk => .inl hk)))
    have HZe := Aside0.mk ((below_zero HBd.out).trans HZE.out)
    have hlk := fun n => look_one (w := we.drewN n) (blk_drewN hMe n)
    have hlk0 := look_one (w := we) hMe
    have hlk1 := look_one (w := we.drew) (blk_drew hMe)
    have hle := HKE.out.1
    have hlD := blk_lt hFd
    clear hDd hMd hNd hfd hFd HCd HBd HKE HZE HBe hcb hdb hcn hdn
    go_wp2
    go_quiet (fail)
    obtain ⟨rfl, hRR⟩ : n = rows.length ∧ True := ⟨(Kd.R_reads' HCe.out).1, trivial⟩
    go_wp2_with (first
      | ((with_reducible refine gate_builtin (b := .append) (xs := #[.tmp 51, .tmp 52]) rfl ?_); at_builtin; refine nil_append_rows (sz := 1) (e := 5) rfl (.tmp 51) (.tmp 52) 26 (.int .u8 0) 1 rfl Tryz.underlying26 infoB rfl (by decide) (by decide) A rows.length c rows (Kd.C_below (Kd.R_reads' HCe.out).2.2 (by (repeat (first | exact Below.refl _ _ | apply below_drew1 | apply pw_below_drewN)))) rfl rfl (by omega) ?_; intro A3 c3 wf ho hb; replace hb := below_step (w := we) (by (repeat (first | exact Below.refl _ _ | apply below_drew1 | apply pw_below_drewN))) hb; have hDf := blk_below hDe hb; have hff := blk_below hfe hb; have hcf := (fun i => blk_cell hff i); have hdf := (fun i => blk_frozen hff i); have HBf := Aside0.mk hb; have hDg := (fun i u => blk_far (p := ⟨wc.heap.size, i, none⟩) hDf (show d ≠ wc.heap.size by omega) u); clear ho hb)
      | (go_at_call 101; refine (did_calls d _ _ _ _ _ _ _ (hDg _ _)).mono ?_; rintro e wg ⟨rfl, hb⟩; have HBg := Aside0.mk hb; clear hb))
    go_ret
    refine ⟨rfl, ?_, ?_⟩
    · exact ((HZe.out.trans (below_zero HBf.out)).setCell (Nat.zero_le _) _).trans (below_zero HBg.out)
    · exact ((HKe.out.below HBf.out).setCell (.inr (by show w.heap.size ≤ wc.heap.size; omega)) _).below HBg.out
end Go.Proofs.YtgljebaiakhbfaaGreat.Aw
