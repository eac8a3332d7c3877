/- (*wal.Log).Force and Cut, walked. Conditions: the log's numbers within their bounds, all on the disk is bytes. -/
import Derived.Test.YtihmfccpgahmaaaWalEnt
import Derived.Test.YtihmfccpgahmaaaWalOpen
import Derived.Test.YtihmfccpgahmaaaRange
import Derived.Sort.QuietIn
import Derived.Sort.CutIn
import Derived.Maps.AppendAt
import Derived.Laws.AppendOwn
import Derived.Test.YtihmfccpgahmaaaWalApp
import Derived.Lib.SlBytesConst
namespace Go.Proofs.Ytihmfccpgahmaaa.Wal
open Go Go.RowKit
open Go.Proofs.YtihmfccpgahmaaaW.PrintWords hiding Kept Kept.refl
open Go.Proofs.YtihmfccpgahmaaaW.PrintMore Go.Proofs.YtihmfccpgahmaaaW.PrintLast Go.Proofs.Ytihmfccpgahmaaa.Dk Go.Proofs.Ytihmfccpgahmaaa.Q Go.Proofs.Ytihmfccpgahmaaa.Str Go.Proofs.Ytihmfccpgahmaaa.Leb
set_option linter.unusedVariables false
set_option linter.unusedSimpArgs false
structure CutR where
  e : Int
  L : LA
  M : DA
def LA.force (L : LA) (M : DA) : CutR := if L.forced = L.next then ⟨0, L, M⟩ else if M.syE = 0 then ⟨0, { L with forced := L.next }, M.sy⟩ else ⟨M.syE, L, M.sy⟩
def LA.at_ (L : LA) (lsn : Int) : LA := { L with start := lsn }
def LA.fl (L : LA) (x : Int) : LA := { L with floor := x }
def LA.marked (L : LA) (M : DA) : CutR := ⟨L.mkE M, L.up, L.mkM M⟩
def LA.cut2 (L : LA) (M : DA) (lsn : Int) : CutR :=
  if L.start = lsn then ⟨0, L.at_ lsn, M⟩
  else if lsn < L.next then (if (((L.at_ lsn).fl L.life).rd M lsn).e ≠ 0 ∨ (((L.at_ lsn).fl L.life).rd M lsn).ok = false then ⟨(((L.at_ lsn).fl L.life).rd M lsn).e, (L.at_ lsn).fl L.life, M⟩
    else ((L.at_ lsn).fl (((L.at_ lsn).fl L.life).rd M lsn).life).marked M)
  else ((L.at_ lsn).fl L.life).marked M
def LA.cut (L : LA) (M : DA) (lsn : Int) : CutR :=
  if lsn < L.start ∨ L.next < lsn then ⟨1, L, M⟩ else if (L.force M).e ≠ 0 then L.force M else (L.force M).L.cut2 (L.force M).M lsn
section
variable {w0 w wa W : World} {p g : Nat} {S : Nat → Prop} {L : LA} {M : DA}
theorem Lg.sync {M2 : DA} (h : Lg w0 w p g S L M) (hs : St w0 W g S M2) (hk : Kept w W S) : Lg w0 W p g S L M2 := ⟨hs, (hk.block p h.lt h.N).trans h.B, h.P, h.N⟩
theorem force_l (h : Lg w0 w p g S L M) (hw : M.wait.length ≤ 1000000) : Calls Try.prog 43 #[.pointer (some ⟨p, 0, none⟩)] w fun e w' => e = .returned (.int .i64 (L.force M).e) ∧ Lg w0 w' p g S (L.force M).L (L.force M).M ∧ Kept w w' (fun k => S k ∨ k = p) := by
  have HL := Aside0.mk h
  have HW := Aside0.mk hw
  obtain ⟨c0, c1, c2, c3, c4, c5, c6, c7, c8⟩ := h.all
  have f8 : w.frozen? ⟨p, 8, none⟩ = false := blk_frozen h.B 8
  clear h hw
  by_cases hq : L.forced = L.next
  · have b1 : (L.forced == L.next) = true := by simp [hq]
    have hR := Aside0.mk (show L.force M = ⟨0, L, M⟩ from if_pos hq)
    clear hq
    go_enter Try.func43, Try.ntmps43
    go_upto_region 3 with fail
    go_quiet (fail)
    go_wp2
    go_ret
    rw [hR.out]
    exact ⟨rfl, HL.out.below (below_drewN _ _), Dk.Kept.of_below (below_drewN _ _) _⟩
  have b1 : (L.forced == L.next) = false := by simp [hq]
  have HQ := Aside0.mk hq
  clear hq
  go_enter Try.func43, Try.ntmps43
  go_upto_region 3 with fail
  go_quiet (fail)
  have HL2 := Aside0.mk (HL.out.below (below_drewN w nq))
  have HK2 := Aside0.mk (Dk.Kept.of_below (below_drewN w nq) (fun k => S k ∨ k = p))
  generalize w.drewN nq = w2 at HL2 HK2 ⊢
  clear c0 c1 c2 c3 c4 c5 c6 c7 c8 f8 b1 HL
  have c0 := HL2.out.all.1
  go_wp2_with fail
  refine (st_sync HL2.out.D HW.out).mono ?_
  rintro e w3 ⟨rfl, hs, hk⟩
  have HL3 := Aside0.mk (HL2.out.sync hs hk)
  have HK3 := Aside0.mk (HK2.out.then_ hk (fun k h => .inl (.inl h)))
  clear HL2 HK2 hs hk c0
  by_cases hz : M.syE = 0
  · have b2 : (M.syE != 0) = false := by simp [hz]
    have hR := Aside0.mk (show L.force M = ⟨0, { L with forced := L.next }, M.sy⟩ from (if_neg HQ.out).trans (if_pos hz))
    have c7 := HL3.out.all.2.2.2.2.2.2.2.1
    have c8 := HL3.out.all.2.2.2.2.2.2.2.2
    have f8 : w3.frozen? ⟨p, 8, none⟩ = false := blk_frozen HL3.out.B 8
    clear hz
    go_wp2
    go_ret
    rw [hR.out]
    exact ⟨rfl, HL3.out.setw rfl, HK3.out.setCell (.inl (.inr rfl)) _⟩
  · have b2 : (M.syE != 0) = true := by simpa using hz
    have hR := Aside0.mk (show L.force M = ⟨M.syE, L, M.sy⟩ from (if_neg HQ.out).trans (if_neg hz))
    clear hz
    go_wp2
    go_ret
    rw [hR.out]
    exact ⟨rfl, HL3.out, HK3.out⟩
theorem sy_now (M : DA) : M.sy.now.length = M.now.length := by
  have hst : M.step.now = M.now := by unfold DA.step; split <;> (try split) <;> rfl
  have hf : ∀ (l : List (Int × List Int)) (N : DA), (l.foldl DA.lay N).now = N.now := by
    intro l
    induction l with
    | nil => intro N; rfl
    | cons x l ih => intro N; exact (ih _).trans rfl
  unfold DA.sy
  split
  · rfl
  · split
    · rw [hst]
    · show (List.foldl DA.lay M.step M.step.wait).now.length = _
      rw [hf, hst]
theorem force_geo : (L.force M).L.fr = L.fr ∧ (L.force M).L.ring = L.ring ∧ (L.force M).L.seq = L.seq ∧ (L.force M).L.life = L.life ∧ (L.force M).L.start = L.start ∧ (L.force M).L.floor = L.floor ∧ (L.force M).L.next = L.next ∧ (L.force M).M.now.length = M.now.length := by
  unfold LA.force
  split
  · exact ⟨rfl, rfl, rfl, rfl, rfl, rfl, rfl, rfl⟩
  · split
    · exact ⟨rfl, rfl, rfl, rfl, rfl, rfl, rfl, sy_now M⟩
    · exact ⟨rfl, rfl, rfl, rfl, rfl, rfl, rfl, sy_now M⟩
theorem force_ok {n : Nat} (hk : L.Ok n) : (L.force M).L.Ok n := by
  unfold LA.force
  have h1 := hk.sn
  have h0 := hk.s0
  split
  · exact hk
  · split
    · exact { hk with c0 := (by show 0 ≤ L.next; omega), c1 := Int.le_refl _ }
    · exact hk
theorem sy_waitle (M : DA) : M.sy.wait.length ≤ M.wait.length := by
  have hst : M.step.wait = M.wait := by unfold DA.step; split <;> (try split) <;> rfl
  unfold DA.sy
  split
  · exact Nat.le_refl _
  · split
    · rw [hst]; exact Nat.le_refl _
    · exact Nat.zero_le _
theorem force_wait : (L.force M).M.wait.length ≤ M.wait.length := by
  unfold LA.force
  split
  · exact Nat.le_refl _
  · split <;> exact sy_waitle M
theorem DY.step {M : DA} (h : DY M) : DY M.step := by unfold DA.step; split <;> (try split) <;> exact ⟨h.now, h.safe, h.wait⟩
theorem DY.sy {M : DA} (h : DY M) : DY M.sy := by
  have h1 := h.step
  have hf : ∀ (l : List (Int × List Int)) (N : DA), (∀ x ∈ l, Byt x.2) → DY N → DY (l.foldl DA.lay N) := by
    intro l
    induction l with
    | nil => intro N _ h; exact h
    | cons x l ih =>
      intro N hl h
      refine ih _ (fun y hy => hl y (List.mem_cons_of_mem _ hy)) ⟨h.now, fun s hs => ?_, h.wait⟩
      rcases List.mem_or_eq_of_mem_set hs with h2 | h2
      · exact h.safe s h2
      · rw [h2]; exact hl x (List.mem_cons_self ..)
  unfold DA.sy
  split
  · exact h
  · split
    · exact h1
    · have h2 := hf M.step.wait M.step h1.wait h1
      exact ⟨h2.now, h2.safe, fun x hx => (by cases hx)⟩
theorem DY.wr {M : DA} (h : DY M) (i : Int) {l : List Int} (hl : Byt l) : DY (M.wr i l) := by
  unfold DA.wr
  split
  · have h1 := h.step
    unfold DA.put
    refine ⟨fun s hs => ?_, h1.safe, fun x hx => ?_⟩
    · rcases List.mem_or_eq_of_mem_set hs with h2 | h2
      · exact h1.now s h2
      · rw [h2]; exact hl
    · rcases List.mem_append.1 hx with h2 | h2
      · exact h1.wait x h2
      · rw [List.mem_singleton.1 h2]; exact hl
  · exact h
theorem force_DY (hY : DY M) : DY (L.force M).M := by
  unfold LA.force
  split
  · exact hY
  · split <;> exact hY.sy
theorem up_nm {n : Nat} {lsn x : Int} (hk : L.Ok n) (h0 : 0 ≤ lsn ∧ lsn < 18446744073709551616) (hx : 0 ≤ x ∧ x < 18446744073709551616) : ((L.at_ lsn).fl x).up.Nm := by
  have := hk.f0
  have := hk.fn
  have := hk.n6
  have := hk.r0
  have := hk.q0
  have := hk.q1
  have := hk.l0
  have := hk.l1
  exact ⟨⟨by show 0 ≤ L.fr; omega, by show L.fr ≤ 65536; omega⟩, ⟨by show 0 ≤ L.seq + 1; omega, by show L.seq + 1 < _; omega⟩, ⟨by show 0 ≤ L.life; omega, by show L.life < _; omega⟩, h0, hx⟩
set_option maxRecDepth 100000 in
set_option maxHeartbeats 4000000 in
theorem cut_l (h : Lg w0 w p g S L M) (hk : L.Ok M.now.length) (hY : DY M) (lsn : Int) (hl0 : 0 ≤ lsn) (hl1 : lsn < 18446744073709551616) (hw : M.wait.length < 900000) : Calls Try.prog 45 #[.pointer (some ⟨p, 0, none⟩), .int .u64 lsn] w fun e w' =>
    e = .returned (.int .i64 (L.cut M lsn).e) ∧ ∃ S', Lg w0 w' p g S' (L.cut M lsn).L (L.cut M lsn).M ∧ (∀ k, S' k → S k ∨ w.heap.size ≤ k) ∧ Kept w w' (fun k => S k ∨ k = p) := by
  have HL := Aside0.mk h
  obtain ⟨c0, c1, c2, c3, c4, c5, c6, c7, c8⟩ := h.all
  by_cases hbad : lsn < L.start ∨ L.next < lsn
  · have hR := Aside0.mk (show L.cut M lsn = ⟨1, L, M⟩ from if_pos hbad)
    have hc : decide (lsn < L.start) = true ∨ (decide (lsn < L.start) = false ∧ decide (L.next < lsn) = true) := by
      by_cases a1 : lsn < L.start
      · exact .inl (decide_eq_true a1)
      · exact .inr ⟨decide_eq_false a1, decide_eq_true (by omega)⟩
    clear hbad h
    rcases hc with b1 | ⟨b1, b2⟩
    all_goals
      go_enter Try.func45, Try.ntmps45
      go_wp2
      go_ret
      rw [hR.out]
      exact ⟨rfl, S, HL.out, fun k hk => .inl hk, Kept.refl _ _⟩
  have b1 : decide (lsn < L.start) = false := decide_eq_false (by omega)
  have b2 : decide (L.next < lsn) = false := decide_eq_false (by omega)
  obtain ⟨R, hR⟩ : ∃ R, R = L.cut M lsn := ⟨_, rfl⟩
  rw [← hR]
  have hR1 : R = if (L.force M).e ≠ 0 then L.force M else (L.force M).L.cut2 (L.force M).M lsn := by rw [hR]; exact if_neg hbad
  have HR := Aside0.mk hR1
  have HG := Aside0.mk (force_geo (L := L) (M := M))
  have HKF := Aside0.mk (show (L.force M).L.Ok (L.force M).M.now.length by rw [HG.out.2.2.2.2.2.2.2]; exact force_ok hk)
  have HYF := Aside0.mk (force_DY (L := L) hY)
  have HWF := Aside0.mk (show (L.force M).M.wait.length < 900000 from Nat.lt_of_le_of_lt force_wait hw)
  have HW := Aside0.mk (show M.wait.length ≤ 1000000 by omega)
  have HLS := Aside0.mk (show L.start ≤ lsn ∧ lsn ≤ L.next by omega)
  clear hR hR1 hbad h hk hY hw
  go_enter Try.func45, Try.ntmps45
  go_wp2_with fail
  refine (force_l HL.out HW.out).mono ?_
  rintro e w2 ⟨rfl, hl, hkp⟩
  obtain ⟨F, hF⟩ : ∃ F, F = L.force M := ⟨_, rfl⟩
  rw [← hF] at hl HR HG HKF HYF HWF ⊢
  have HL2 := Aside0.mk hl
  have HK2 := Aside0.mk hkp
  clear hl hkp hF c0 c1 c2 c3 c4 c5 c6 c7 c8 b1 b2
  by_cases he : F.e = 0
  case neg =>
    have t0 : (F.e != 0) = true := by simpa using he
    have hR := HR.out
    rw [if_pos he] at hR
    have HR2 := Aside0.mk hR
    clear hR he
    go_wp2
    go_ret
    rw [HR2.out]
    exact ⟨rfl, S, HL2.out, fun k hk => .inl hk, HK2.out⟩
  have t0 : (F.e != 0) = false := by simp [he]
  have hR := HR.out
  rw [if_neg (fun h => h he)] at hR
  obtain ⟨Fe, Lf, Mf⟩ := F
  have HR2 := Aside0.mk (show R = Lf.cut2 Mf lsn from hR)
  have HL3 := Aside0.mk (show Lg w0 w2 p g S Lf Mf from HL2.out)
  have HKf := Aside0.mk (show Lf.Ok Mf.now.length from HKF.out)
  have HYf := Aside0.mk (show DY Mf from HYF.out)
  have HWf := Aside0.mk (show Mf.wait.length < 900000 from HWF.out)
  have HLs := Aside0.mk (show Lf.start ≤ lsn ∧ lsn ≤ Lf.next by have := HLS.out; have := HG.out; simp only at this; omega)
  simp only at t0 ⊢
  clear hR he HR HL2 HG HKF HYF HWF HLS HL
  have c5 := HL3.out.all.2.2.2.2.2.1
  have f5 : w2.frozen? ⟨p, 5, none⟩ = false := blk_frozen HL3.out.B 5
  by_cases hq : Lf.start = lsn
  · have b3 : (Lf.start == lsn) = true := by simp [hq]
    have hR := Aside0.mk (show R = ⟨0, Lf.at_ lsn, Mf⟩ from HR2.out.trans (if_pos hq))
    clear hq
    go_wp2
    go_ret
    rw [hR.out]
    exact ⟨rfl, S, HL3.out.setw rfl, fun k hk => .inl hk, HK2.out.setCell (.inl (.inr rfl)) _⟩
  have b3 : (Lf.start == lsn) = false := by simp [hq]
  have HQ := Aside0.mk hq
  have HL4 := Aside0.mk (show Lg w0 ((w2.setCell ⟨p, 5, none⟩ (.int .u64 lsn)).setCell ⟨p, 6, none⟩ (.int .u64 Lf.life)) p g S ((Lf.at_ lsn).fl Lf.life) Mf from (show Lg w0 (w2.setCell ⟨p, 5, none⟩ (.int .u64 lsn)) p g S (Lf.at_ lsn) Mf from HL3.out.setw rfl).setw rfl)
  have HK4 := Aside0.mk ((HK2.out.setCell (p := ⟨p, 5, none⟩) (.inl (.inr rfl)) (.int .u64 lsn)).setCell (p := ⟨p, 6, none⟩) (.inl (.inr rfl)) (.int .u64 Lf.life))
  have c4 := HL3.out.all.2.2.2.2.1
  have c6 := HL3.out.all.2.2.2.2.2.2.1
  have c7 := HL3.out.all.2.2.2.2.2.2.2.1
  have f6 : w2.frozen? ⟨p, 6, none⟩ = false := blk_frozen HL3.out.B 6
  have HOk := Aside0.mk (show ((Lf.at_ lsn).fl Lf.life).Ok Mf.now.length from by
    have hk := HKf.out
    have := HLs.out
    exact { hk with s0 := hl0, sn := this.2, nr := (by have := hk.nr; show Lf.next ≤ lsn + Lf.ring; omega), o0 := hk.l0, o1 := hk.l1 })
  clear hq
  by_cases hlt : lsn < Lf.next
  · have b4 : decide (lsn < Lf.next) = true := decide_eq_true hlt
    have HLT := Aside0.mk hlt
    clear hlt
    go_wp2_with fail
    generalize (w2.setCell ⟨p, 5, none⟩ (.int .u64 lsn)).setCell ⟨p, 6, none⟩ (.int .u64 Lf.life) = w3 at HL4 HK4 ⊢
    refine (read_l HL4.out HOk.out HYf.out lsn hl0 (by have := HLs.out; have := HKf.out.nx; omega)).mono ?_
    rintro e w4 ⟨rfl, hb⟩
    have HL5 := Aside0.mk (HL4.out.below hb)
    have HK5 := Aside0.mk (HK4.out.below hb)
    have hfit := LA.rd_fit ((Lf.at_ lsn).fl Lf.life) HYf.out lsn
    obtain ⟨q, hq⟩ : ∃ q, q = ((Lf.at_ lsn).fl Lf.life).rd Mf lsn := ⟨_, rfl⟩
    have HQr := Aside0.mk hq
    rw [← hq] at hfit ⊢
    have HFit := Aside0.mk hfit
    clear HL3 HL4 HK4 HK2 c4 c5 c6 c7 f5 f6 b3 b4 t0 hb hq hfit
    by_cases hqb : q.e ≠ 0 ∨ q.ok = false
    · have hR := Aside0.mk (show R = ⟨q.e, (Lf.at_ lsn).fl Lf.life, Mf⟩ from by
        rw [HR2.out]
        refine (if_neg HQ.out).trans ((if_pos HLT.out).trans ?_)
        rw [← HQr.out]
        exact if_pos hqb)
      have hc : (q.e != 0) = true ∨ ((q.e != 0) = false ∧ q.ok = false) := by
        by_cases a1 : q.e = 0
        · exact .inr ⟨by simp [a1], hqb.resolve_left (fun h => h a1)⟩
        · exact .inl (by simpa using a1)
      clear hqb
      rcases hc with a1 | ⟨a1, a2⟩
      all_goals
        go_wp2
        go_ret
        rw [hR.out]
        exact ⟨rfl, S, HL5.out.below (below_alloc (Below.refl _ _) _), fun k hk => .inl hk, HK5.out.below (below_alloc (Below.refl _ _) _)⟩
    · have hR := Aside0.mk (show R = ((Lf.at_ lsn).fl q.life).marked Mf from by
        rw [HR2.out]
        refine (if_neg HQ.out).trans ((if_pos HLT.out).trans ?_)
        rw [← HQr.out]
        exact if_neg hqb)
      have a1 : (q.e != 0) = false := by by_cases a1 : q.e = 0; · simp [a1]
                                         · exact absurd (.inl a1) hqb
      have a2 : q.ok = true := by cases hok : q.ok; · exact absurd (.inr hok) hqb
                                  · rfl
      clear hqb
      have HL6 := Aside0.mk (HL5.out.below (below_alloc (Below.refl _ _) (.cells #[.int .u64 q.life, .bool q.last, .string q.b] 98 (0, 0))))
      have HK6 := Aside0.mk (HK5.out.below (below_alloc (Below.refl _ _) (.cells #[.int .u64 q.life, .bool q.last, .string q.b] 98 (0, 0))))
      have c6 := HL6.out.all.2.2.2.2.2.2.1
      have f6 := blk_frozen HL6.out.B 6
      have HL7 := Aside0.mk (show Lg w0 ((w4.alloc (.cells #[.int .u64 q.life, .bool q.last, .string q.b] 98 (0, 0))).setCell ⟨p, 6, none⟩ (.int .u64 q.life)) p g S ((Lf.at_ lsn).fl q.life) Mf from HL6.out.setw rfl)
      have HK7 := Aside0.mk (HK6.out.setCell (p := ⟨p, 6, none⟩) (.inl (.inr rfl)) (.int .u64 q.life))
      go_wp2_with fail
      generalize (w4.alloc (.cells #[.int .u64 q.life, .bool q.last, .string q.b] 98 (0, 0))).setCell ⟨p, 6, none⟩ (.int .u64 q.life) = w5 at HL7 HK7 ⊢
      refine (mark_l HL7.out (up_nm HKf.out ⟨hl0, hl1⟩ ⟨HFit.out.1, HFit.out.2.1⟩) HKf.out.q0 (by have := HWf.out; omega)).mono ?_
      rintro e w6 ⟨rfl, S', hl, hs, hkp⟩
      have HF := Aside0.mk hl
      have HS := Aside0.mk hs
      have HKK := Aside0.mk (HK7.out.then_ hkp (fun k h => .inl h))
      have hsz := Aside0.mk HK7.out.size
      clear hl hs hkp HL5 HL6 HL7 HK5 HK6 HK7 c6 f6
      go_wp2
      go_ret
      rw [hR.out]
      exact ⟨rfl, S', HF.out, fun k hk => (HS.out k hk).imp id (fun h => Nat.le_trans hsz.out h), HKK.out⟩
  · have b4 : decide (lsn < Lf.next) = false := decide_eq_false hlt
    have hR := Aside0.mk (show R = ((Lf.at_ lsn).fl Lf.life).marked Mf from by
      rw [HR2.out]
      exact (if_neg HQ.out).trans (if_neg hlt))
    clear hlt
    go_wp2_with fail
    generalize (w2.setCell ⟨p, 5, none⟩ (.int .u64 lsn)).setCell ⟨p, 6, none⟩ (.int .u64 Lf.life) = w3 at HL4 HK4 ⊢
    refine (mark_l HL4.out (up_nm HKf.out ⟨hl0, hl1⟩ ⟨HKf.out.l0, by have := HKf.out.l1; omega⟩) HKf.out.q0 (by have := HWf.out; omega)).mono ?_
    rintro e w6 ⟨rfl, S', hl, hs, hkp⟩
    have HF := Aside0.mk hl
    have HS := Aside0.mk hs
    have HKK := Aside0.mk (HK4.out.then_ hkp (fun k h => .inl h))
    have hsz := Aside0.mk HK4.out.size
    clear hl hs hkp HL3 HL4 HK4 c4 c5 c6 c7 f5 f6
    go_wp2
    go_ret
    rw [hR.out]
    exact ⟨rfl, S', HF.out, fun k hk => (HS.out k hk).imp id (fun h => Nat.le_trans hsz.out h), HKK.out⟩
end
end Go.Proofs.Ytihmfccpgahmaaa.Wal

namespace Go.Proofs.Ytihmfccpgahmaaa.Wal
open Go Go.RowKit Go.Proofs.Ytihmfccpgahmaaa.Rng
open Go.Proofs.YtihmfccpgahmaaaW.PrintWords hiding Kept Kept.refl
open Go.Proofs.YtihmfccpgahmaaaW.PrintMore Go.Proofs.YtihmfccpgahmaaaW.PrintLast Go.Proofs.Ytihmfccpgahmaaa.Dk Go.Proofs.Ytihmfccpgahmaaa.Q Go.Proofs.Ytihmfccpgahmaaa.Str Go.Proofs.Ytihmfccpgahmaaa.Leb
set_option linter.unusedVariables false
set_option linter.unusedSimpArgs false
attribute [local go_sem] Oper.semAt_some
/-- The entries from a number on. -/
def LA.all (L : LA) (M : DA) : Nat → Int → Int → List (Int × List Int)
  | 0, _, _ => []
  | k + 1, a, lf => if a < L.next then (if (L.entry M a lf).e ≠ 0 ∨ (L.entry M a lf).ok = false then [] else (a, (L.entry M a lf).b) :: L.all M k (L.entry M a lf).next (L.entry M a lf).life) else []
theorem all_succ (L : LA) (M : DA) (k : Nat) (a lf : Int) : L.all M (k + 1) a lf = if a < L.next then (if (L.entry M a lf).e ≠ 0 ∨ (L.entry M a lf).ok = false then [] else (a, (L.entry M a lf).b) :: L.all M k (L.entry M a lf).next (L.entry M a lf).life) else [] := rfl
def LA.alls (L : LA) (M : DA) (a : Int) : List (Int × List Int) := L.all M ((L.next - a).toNat + 1) a 0
/-- What a round is handed: a number, bytes, and where they lie. -/
structure Item where
  n : Int
  v : Value
  b : List Int
def Item.e (x : Item) : Int × List Int := (x.n, x.b)
def encs (x : Item) : Array Value := #[.int .u64 x.n, x.v]
/-- The bytes that a round is handed lie in a row of their own. -/
def Hx (T : List (Int × List Int)) (base : Nat) (pre : List Item) (x : Item) (W : World) : Prop :=
  W.ownsRow base 5 1 x.v x.b.length (nums .u8 x.b) ∧ (pre.map Item.e ++ [x.e]) <+: T
theorem all_c (p : Nat) (a : Int) (w : World) : CallsIn Fence.wide 3 Try.prog 42 #[.pointer (some ⟨p, 0, none⟩), .int .u64 a] w fun e w' =>
    e = .returned (.func (.func 58) #[] #[.pointer (some ⟨w.heap.size, 0, none⟩), .pointer (some ⟨w.heap.size + 1, 0, none⟩)]) ∧ w' = (w.alloc (.cells #[.pointer (some ⟨p, 0, none⟩)] 52)).alloc (.cells #[.int .u64 a] 55) := by
  refine callsIn_of_wp Try.func42 rfl trivial ?_ rfl
  simp only [Try.ntmps42, List.size_toArray, List.length_cons, List.length_nil, Nat.reduceAdd, Nat.reduceSub, Array.replicate_succ, Array.replicate_zero, List.push_toArray, List.append_toArray, List.nil_append, List.cons_append]
  gi_wp2
  go_ret
  exact ⟨rfl, rfl⟩
section
variable {w0 w wa W : World} {p g : Nat} {S : Nat → Prop} {L : LA} {M : DA}
/-- What a round must leave: what lay below n0, and the box of the log. -/
def Kb (n0 b1 : Nat) (A B : World) : Prop := Below n0 A B ∧ B.heap[b1]? = A.heap[b1]?
theorem Kb.trans {n0 b1 : Nat} {A B C : World} (h : Kb n0 b1 A B) (k : Kb n0 b1 B C) : Kb n0 b1 A C := ⟨h.1.trans k.1, k.2.trans h.2⟩
theorem Kb.of_below {n0 b1 : Nat} {A B : World} (h : Below A.heap.size A B) (hn : n0 ≤ A.heap.size) (hb : b1 < A.heap.size) : Kb n0 b1 A B := ⟨h.mono hn, h.block b1 hb⟩
theorem Kb.size {n0 b1 : Nat} {A B : World} (h : Kb n0 b1 A B) : A.heap.size ≤ B.heap.size := h.1.size
theorem Lg.low (h : Lg w0 w p g S L M) {n0 : Nat} (h0 : w0.heap.size ≤ n0) (hS : ∀ k, S k → k < n0) (hp : p < n0) (hb : Below n0 w W) : Lg w0 W p g S L M :=
  ⟨⟨h.D.I.step hb.size (fun k hk _ => hb.block k (hS k hk)), h.D.B.trans (hb.mono h0)⟩, (hb.block p hp).trans h.B, h.P, h.N⟩
theorem cell_of_heap {A B : World} {b : Nat} {v : Value} (h : B.heap[b]? = A.heap[b]?) (hc : A.cell? ⟨b, 0, none⟩ = some v) : B.cell? ⟨b, 0, none⟩ = some v := by
  rw [← hc]; simp only [World.cell?, h]
set_option maxRecDepth 100000 in
set_option maxHeartbeats 4000000 in
/-- All's closure: it hands over the entries. -/
theorem all_s (h : Lg w0 w p g S L M) {n0 : Nat} (hn0 : w0.heap.size ≤ n0) (hn1 : n0 ≤ w.heap.size) (hS : ∀ k, S k → k < n0) (hp : p < n0) (hk : L.Ok M.now.length) (hY : DY M) (a : Int) (ha0 : L.start ≤ a) (ha1 : a ≤ L.next) (b1 b2 : Nat) (hb1 : w.cell? ⟨b1, 0, none⟩ = some (.pointer (some ⟨p, 0, none⟩))) (hb2 : w.cell? ⟨b2, 0, none⟩ = some (.int .u64 a)) :
    SeqH Fence.wide 3 Try.prog 58 #[.pointer (some ⟨b1, 0, none⟩), .pointer (some ⟨b2, 0, none⟩)] encs (Kb n0 b1) (Hx (L.alls M a) n0) (fun xs => xs.map Item.e = L.alls M a) (fun pre => pre.map Item.e <+: L.alls M a) w := by
  intro l J Jx W hbW hJ hJx hY0 hJ0
  have HL := Aside0.mk h
  have HK := Aside0.mk hk
  have HJ := Aside0.mk hJ
  have HJx := Aside0.mk hJx
  have HY0 := Aside0.mk hY0
  have HB1 := Aside0.mk hb1
  have HB2 := Aside0.mk hb2
  have HBW := Aside0.mk (Kb.of_below hbW hn1 (World.block_lt_of_cell? _ _ hb1))
  have HLow := Aside0.mk (And.intro hn0 (And.intro hS (And.intro hp (And.intro hn1 (World.block_lt_of_cell? _ _ hb1)))))
  have x1 := (hbW.cell (World.block_lt_of_cell? _ _ hb1)).trans hb1
  have x2 := (hbW.cell (World.block_lt_of_cell? _ _ hb2)).trans hb2
  have c5 := (h.below hbW).all.2.2.2.2.2.1
  have t0 : decide (a < L.start) = false := decide_eq_false (by omega)
  obtain ⟨T, hT⟩ : ∃ T, T = L.alls M a := ⟨_, rfl⟩
  rw [← hT] at HY0 ⊢
  have HT := Aside0.mk hT
  have HA := Aside0.mk (And.intro ha0 ha1)
  clear h hk hJ hJx hY0 hb1 hb2 hbW hT ha0 ha1 hn0 hn1 hS hp
  refine callsIn_of_wp Try.func58 rfl trivial ?_ rfl
  simp only [Try.ntmps58, List.size_toArray, List.length_cons, List.length_nil, Nat.reduceAdd, Nat.reduceSub, Array.replicate_succ, Array.replicate_zero, List.push_toArray, List.append_toArray, List.nil_append, List.cons_append]
  gi_upto_region 0 with fail
  gi_quiet (fail)
  have HB3 := Aside0.mk (HBW.out.trans (Kb.of_below (below_drewN W nq) (Nat.le_trans HLow.out.2.2.2.1 HBW.out.size) (Nat.lt_of_lt_of_le HLow.out.2.2.2.2 HBW.out.size)))
  have HJ1 := Aside0.mk (HJ.out [] _ _ hJ0 (below_drewN W nq))
  have y2 : (W.drewN nq).cell? ⟨b2, 0, none⟩ = some (.int .u64 a) := x2
  clear x1 x2 c5 t0 hJ0 HBW
  generalize W.drewN nq = W2 at HB3 HJ1 y2 ⊢
  gi_wp2
  gi_loopw [4, 5] (fun v4 v5 wr => ∃ (at_ lf : Int) (pre : List Item), v4 = .int .u64 lf ∧ v5 = .int .u64 at_ ∧ Aside0 (J pre wr ∧ Kb n0 b1 w wr ∧ (L.start ≤ at_ ∧ at_ ≤ L.start + L.ring) ∧ (0 ≤ lf ∧ lf < 18446744073709551616) ∧ ∃ k, (L.next - at_).toNat + 1 ≤ k ∧ pre.map Item.e ++ L.all M k at_ lf = T)) (fun _ v5 _ => (L.next - intOf v5).toNat)
  case atStart => exact ⟨a, 0, [], rfl, rfl, ⟨HJ1.out, HB3.out, ⟨HA.out.1, by have := HK.out.nr; have := HA.out.2; omega⟩, ⟨Int.le_refl _, by decide⟩, ⟨_, Nat.le_refl _, HT.out.symm⟩⟩⟩
  case round =>
    obtain ⟨at_, lf, pre, rfl, rfl, hrel⟩ := hrel
    clear HJ1 HB3 y2
    have HJp := Aside0.mk hrel.out.1
    have HB := Aside0.mk hrel.out.2.1
    have HAt := Aside0.mk hrel.out.2.2.1
    have HLF := Aside0.mk hrel.out.2.2.2.1
    obtain ⟨k, hk, hT⟩ := hrel.out.2.2.2.2
    obtain ⟨k, rfl⟩ : ∃ m, k = m + 1 := ⟨k - 1, by omega⟩
    have HKn := Aside0.mk hk
    rw [all_succ] at hT
    have x1 := cell_of_heap HB.out.2 HB1.out
    have HLw := Aside0.mk (HL.out.low HLow.out.1 HLow.out.2.1 HLow.out.2.2.1 HB.out.1)
    have c7 := HLw.out.all.2.2.2.2.2.2.2.1
    have hnw := Nat.le_trans HLow.out.2.2.2.1 HB.out.size
    have hbw := Nat.lt_of_lt_of_le HLow.out.2.2.2.2 HB.out.size
    clear hrel hk
    by_cases hlt : at_ < L.next
    · have t1 : decide (at_ < L.next) = true := decide_eq_true hlt
      rw [if_pos hlt] at hT
      have HLT := Aside0.mk hlt
      clear hlt
      gi_wp2_with fail
      refine ⟨trivial, ?_⟩
      refine (callsIn_wide.2 (entry_l HLw.out HK.out hY at_ lf HAt.out.1 HAt.out.2 HLF.out.1 HLF.out.2)).mono ?_
      rintro e w5 ⟨vv, rfl, hR, hb⟩
      have hfit : (L.entry M at_ lf).ok = true → _ := fun h_ => entry_fit (L := L) hY h_ HAt.out.2
      obtain ⟨E, hE⟩ : ∃ E, E = L.entry M at_ lf := ⟨_, rfl⟩
      rw [← hE] at hT hR hfit ⊢
      have HB5 := Aside0.mk (HB.out.trans (Kb.of_below hb hnw hbw))
      have HJ5 := Aside0.mk (HJ.out _ _ _ HJp.out hb)
      have HFI := Aside0.mk hfit
      have HR5 := Aside0.mk (Kd.own_of_R (Kd.R_lower hR hnw))
      clear HJp HB HLw hfit hR hb x1 c7 t1 hE hnw hbw
      by_cases hbad : E.e ≠ 0 ∨ E.ok = false
      · rw [if_pos hbad, List.append_nil] at hT
        have HTe := Aside0.mk hT
        have hc : (E.e != 0) = true ∨ ((E.e != 0) = false ∧ E.ok = false) := by
          by_cases a1 : E.e = 0
          · exact .inr ⟨by simp [a1], hbad.resolve_left (fun h => h a1)⟩
          · exact .inl (by simpa using a1)
        clear hbad hT
        rcases hc with a1 | ⟨a1, a2⟩
        all_goals
          gi_wp2
          refine ⟨fun _ h => (by cases h), ?_⟩
          gi_wp2
          (try simp only [Exit.inBlock, Exit.then])
          refine bodyPost_ret (results_none rfl _ _ _) rfl ?_
          exact ⟨⟨_, rfl⟩, .inl ⟨pre, HTe.out, HJ5.out⟩⟩
      · rw [if_neg hbad] at hT
        have a1 : (E.e != 0) = false := by by_cases a1 : E.e = 0; · simp [a1]
                                           · exact absurd (.inl a1) hbad
        have a2 : E.ok = true := by cases hok : E.ok; · exact absurd (.inr hok) hbad
                                    · rfl
        have HTe := Aside0.mk (show (pre ++ [(⟨at_, vv, E.b⟩ : Item)]).map Item.e ++ L.all M k E.next E.life = T by rw [← hT]; simp [Item.e])
        have HF5 := Aside0.mk (HFI.out a2)
        clear hT hbad
        obtain ⟨fn, tmps, assign, body, hy, hYR⟩ := HY0.out pre ⟨at_, vv, E.b⟩ w5 HJ5.out ⟨HR5.out, ⟨L.all M k E.next E.life, by rw [← HTe.out]; simp⟩⟩
        dsimp only [encs] at hy
        gi_wp2
        refine hYR.mono ?_
        rintro e W3 (⟨rfl, hJ3, hb3⟩ | ⟨rfl, hJx3⟩)
        · have HJ6 := Aside0.mk hJ3
          have HB6 := Aside0.mk (HB5.out.trans hb3)
          clear hJ3 hb3
          gi_wp2
          go_roundw
          case rel => exact ⟨E.next, E.life, _, rfl, rfl, ⟨HJ6.out, HB6.out, ⟨by have := HF5.out.1; have := HAt.out.1; omega, HF5.out.2.1⟩, HF5.out.2.2, ⟨k, by have := HKn.out; have := HF5.out.1; have := HLT.out; omega, HTe.out⟩⟩⟩
          case measure => simp only [intOf]; have := HF5.out.1; have := HLT.out; omega
        · have HJ6 := Aside0.mk hJx3
          clear hJx3
          gi_wp2
          (try simp only [Exit.inBlock, Exit.then])
          refine bodyPost_ret (results_none rfl _ _ _) rfl ?_
          exact ⟨⟨_, rfl⟩, .inr ⟨_, ⟨L.all M k E.next E.life, HTe.out⟩, HJ6.out⟩⟩
    · have t1 : decide (at_ < L.next) = false := decide_eq_false hlt
      rw [if_neg hlt, List.append_nil] at hT
      have HTe := Aside0.mk hT
      clear hlt hT
      gi_wp2
      go_end0
      exact ⟨⟨_, rfl⟩, .inl ⟨pre, HTe.out, HJp.out⟩⟩
end
end Go.Proofs.Ytihmfccpgahmaaa.Wal

namespace Go.Proofs.Ytihmfccpgahmaaa.Wal
open Go Go.RowKit Go.Proofs.Ytihmfccpgahmaaa.Rng
open Go.Proofs.YtihmfccpgahmaaaW.PrintWords hiding Kept Kept.refl
open Go.Proofs.YtihmfccpgahmaaaW.PrintMore Go.Proofs.YtihmfccpgahmaaaW.PrintLast Go.Proofs.Ytihmfccpgahmaaa.Dk Go.Proofs.Ytihmfccpgahmaaa.Q Go.Proofs.Ytihmfccpgahmaaa.Str Go.Proofs.Ytihmfccpgahmaaa.Leb
set_option linter.unusedVariables false
set_option linter.unusedSimpArgs false
attribute [local go_sem] Oper.semAt_some
theorem infoStr : (Try.prog.info? 9).map (fun i => (i.zero, i.size, i.bytes)) = some (some (.string ⟨#[]⟩), 1, 16) := by kernel_rfl
theorem infoU : (Try.prog.info? 55).map (fun i => (i.zero, i.size, i.bytes)) = some (some (.int .u64 0), 1, 8) := by kernel_rfl
def outV (x : Item) : Value := .string (strOfNums x.b)
def atV (x : Item) : Value := .int .u64 x.n
/-- What the two variables hold when 'pre' has come. -/
def Rows2 (n0 k1 k2 : Nat) (pre : List Item) (W : World) : Prop :=
  (∃ v, Boxed W k1 40 v ∧ W.ownsRow n0 9 1 v pre.length (pre.map outV)) ∧ (∃ v, Boxed W k2 62 v ∧ W.ownsRow n0 55 1 v pre.length (pre.map atV))
theorem own_ne {W : World} {b1 b2 s1 s2 n1 n2 : Nat} {e1 e2 : TypeId} {v1 v2 : Value} {x1 x2 : List Value} (h1 : W.ownsRow b1 e1 s1 v1 n1 x1) (h2 : W.ownsRow b2 e2 s2 v2 n2 x2) (he : e1 ≠ e2) : v1.ownBlock = none ∨ v1.ownBlock ≠ v2.ownBlock := by
  rcases h1.2 with ⟨rfl, _⟩ | ⟨g, cap, cur, rfl, _, hg, _⟩
  · exact .inl rfl
  · refine .inr fun h => ?_
    rcases h2.2 with ⟨rfl, _⟩ | ⟨g2, cap2, cur2, rfl, _, hg2, _⟩
    · cases h
    · obtain rfl : g = g2 := by simpa [Value.ownBlock] using h
      rw [hg] at hg2
      injection hg2 with h3
      injection h3 with _ h4
      exact he h4
theorem all_len (L : LA) (M : DA) (k : Nat) : ∀ a lf, (L.all M k a lf).length ≤ k := by
  induction k with
  | zero => intro a lf; exact Nat.le_refl _
  | succ k ih =>
    intro a lf
    rw [all_succ]
    split
    · split
      · exact Nat.zero_le _
      · have := ih (L.entry M a lf).next (L.entry M a lf).life
        simp only [List.length_cons]; omega
    · exact Nat.zero_le _
theorem own_alloc {W : World} {base n sz : Nat} {e : TypeId} {v : Value} {xs : List Value} (h : W.ownsRow base e sz v n xs) (o : Obj) : (W.alloc o).ownsRow base e sz v n xs :=
  h.kept (World.grownBy_alloc W o none) (by by_cases hq : v.ownBlock = none; · exact .inl hq
                                            · exact .inr hq)
theorem own_below2 {W W2 : World} {base n sz : Nat} {e : TypeId} {v : Value} {xs : List Value} (h : W.ownsRow base e sz v n xs) (hb : Below W.heap.size W W2) : W2.ownsRow base e sz v n xs :=
  h.kept (grown_of_below hb none) (by by_cases hq : v.ownBlock = none; · exact .inl hq
                                      · exact .inr hq)
theorem rows2_own (n0 k1 k2 : Nat) : Own (fun pre W => Rows2 n0 k1 k2 pre W) := by
  intro s A B row hs hg hr
  have h1 := holdsRow_own (β := List Item) n0 k1 40 9 1 (fun pre => pre.length) (fun pre => pre.map outV) (fun _ _ => True)
  have h2 := holdsRow_own (β := List Item) n0 k2 62 55 1 (fun pre => pre.length) (fun pre => pre.map atV) (fun _ _ => True)
  obtain ⟨⟨v1, b1, r1⟩, ⟨v2, b2, r2⟩⟩ := hs
  obtain ⟨u1, c1, q1, _⟩ := h1 s A B row ⟨v1, b1, r1, trivial⟩ hg hr
  obtain ⟨u2, c2, q2, _⟩ := h2 s A B row ⟨v2, b2, r2, trivial⟩ hg hr
  exact ⟨⟨u1, c1, q1⟩, ⟨u2, c2, q2⟩⟩
/-- One variable's row grows: what then stands, and that the other variable and its row stay. -/
theorem grow1 {W w1 : World} {n0 k1 k2 n m : Nat} {t1 t2 e1 e2 : TypeId} {v1 v2 v' : Value} {xs ys zs : List Value} {tmp : Obj} (hb1 : Boxed W k1 t1 v1) (h1 : W.ownsRow n0 e1 1 v1 n xs) (hb2 : Boxed W k2 t2 v2) (h2 : W.ownsRow n0 e2 1 v2 m ys) (hn : n0 ≤ W.heap.size) (hk : n0 ≤ k1) (hk2 : k2 ≠ k1)
    (ht1 : t1 ≠ e1) (ht2 : t2 ≠ e1) (he : e2 ≠ e1) (ht3 : t1 ≠ e2) {n' : Nat} (hown : w1.ownsRow n0 e1 1 v' n' zs) (hg : (W.alloc tmp).grownBy w1 v1.ownBlock) :
    (w1.cell? ⟨k1, 0, none⟩ = some v1 ∧ w1.frozen? ⟨k1, 0, none⟩ = false) ∧ Boxed (w1.setCell ⟨k1, 0, none⟩ v') k1 t1 v' ∧ (w1.setCell ⟨k1, 0, none⟩ v').ownsRow n0 e1 1 v' n' zs ∧ KeepsOthers W (w1.setCell ⟨k1, 0, none⟩ v') ∧ Below n0 W (w1.setCell ⟨k1, 0, none⟩ v') ∧ Boxed (w1.setCell ⟨k1, 0, none⟩ v') k2 t2 v2 ∧ (w1.setCell ⟨k1, 0, none⟩ v').ownsRow n0 e2 1 v2 m ys ∧
      (∀ b, b < W.heap.size → (∃ cs t fr, W.heap[b]? = some (.cells cs t fr) ∧ t ≠ e1) → b ≠ k1 → (w1.setCell ⟨k1, 0, none⟩ v').heap[b]? = W.heap[b]?) := by
  obtain ⟨a1, a2, a3, a4, a5⟩ := hb1.appended ht1 h1 hn hk hown hg
  have x1 := (hb2.alloc tmp).kept hg ((hb2.alloc tmp).not_row ht2 (own_alloc h1 tmp))
  have y1 := (own_alloc h2 tmp).kept hg (own_ne (own_alloc h2 tmp) (own_alloc h1 tmp) he)
  refine ⟨⟨a1.cell, a1.frozen⟩, a2, a3, a4, a5, x1.other hk2 v', y1.kept (grownBy_setCell' w1 k1 v') (.inr (fun e => a1.not_row ht3 y1 e.symm)), ?_⟩
  rintro b hlt ⟨cs, t, fr, hb, ht⟩ hne
  have h3 : (W.alloc tmp).heap[b]? = some (.cells cs t fr) := (Below.heap_alloc _ _ _ hlt).trans hb
  have h4 : some b ≠ v1.ownBlock := by
    rcases (own_alloc h1 tmp).2 with ⟨rfl, _⟩ | ⟨g, cap, cur, rfl, _, hgb, _⟩
    · simp [Value.ownBlock]
    · intro e
      obtain rfl : b = g := by simpa [Value.ownBlock] using e
      rw [h3] at hgb
      injection hgb with q1
      injection q1 with _ q2
      exact ht q2
  exact (Below.heap_setCell _ _ _ _ (fun e => hne e)).trans ((hg.block b (by rw [World.size_alloc]; omega) h4).trans (h3.trans hb.symm))
section
variable {w0 w wa W : World} {p g : Nat} {S : Nat → Prop} {L : LA} {M : DA}
set_option maxRecDepth 100000 in
set_option maxHeartbeats 4000000 in
theorem found_in (h : Lg w0 w p g S L M) (hk : L.Ok M.now.length) (hY : DY M) : CallsIn Fence.wide 4 Try.prog 39 #[.pointer (some ⟨p, 0, none⟩)] w fun e w' =>
    ∃ (v1 v2 : Value) (xs : List Item), e = .returned (.tuple #[v1, v2]) ∧ xs.map Item.e = L.alls M L.start ∧ w'.ownsRow w.heap.size 9 1 v1 xs.length (xs.map outV) ∧ w'.ownsRow w.heap.size 55 1 v2 xs.length (xs.map atV) ∧ Below w.heap.size w w' := by
  have HL := Aside0.mk h
  have HK := Aside0.mk hk
  clear h hk
  refine callsIn_of_wp_marks Try.func39 rfl trivial ?_ rfl
  simp only [Try.ntmps39, List.size_toArray, List.length_cons, List.length_nil, Nat.reduceAdd, Nat.reduceSub, Array.replicate_succ, Array.replicate_zero, List.push_toArray, List.append_toArray, List.nil_append, List.cons_append]
  gi_wp2_with fail
  have e1 : (w.alloc (.cells #[] 9)).heap.size = w.heap.size + 1 := World.size_alloc _ _
  have HB4 : Below w.heap.size w ((((w.alloc (.cells #[] 9)).alloc (.cells #[.slice (some ⟨w.heap.size, 0, none⟩) 0 0] 40)).alloc (.cells #[] 55)).alloc (.cells #[.slice (some ⟨w.heap.size + 1 + 1, 0, none⟩) 0 0] 62)) := below_alloc (below_alloc (below_alloc (below_alloc (Below.refl _ _) _) _) _) _
  have hbx1 : Boxed ((((w.alloc (.cells #[] 9)).alloc (.cells #[.slice (some ⟨w.heap.size, 0, none⟩) 0 0] 40)).alloc (.cells #[] 55)).alloc (.cells #[.slice (some ⟨w.heap.size + 1 + 1, 0, none⟩) 0 0] 62)) (w.heap.size + 1) 40 (.slice (some ⟨w.heap.size, 0, none⟩) 0 0) := by
    have h_ := Boxed.new (w.alloc (.cells #[] 9)) 40 (.slice (some ⟨w.heap.size, 0, none⟩) 0 0)
    rw [e1] at h_
    exact (h_.alloc _).alloc _
  have hbx2 : Boxed ((((w.alloc (.cells #[] 9)).alloc (.cells #[.slice (some ⟨w.heap.size, 0, none⟩) 0 0] 40)).alloc (.cells #[] 55)).alloc (.cells #[.slice (some ⟨w.heap.size + 1 + 1, 0, none⟩) 0 0] 62)) (w.heap.size + 1 + 1 + 1) 62 (.slice (some ⟨w.heap.size + 1 + 1, 0, none⟩) 0 0) := by
    have h_ := Boxed.new (((w.alloc (.cells #[] 9)).alloc (.cells #[.slice (some ⟨w.heap.size, 0, none⟩) 0 0] 40)).alloc (.cells #[] 55)) 62 (.slice (some ⟨w.heap.size + 1 + 1, 0, none⟩) 0 0)
    rw [World.size_alloc, World.size_alloc, e1] at h_
    exact h_
  have hrw1 : ((((w.alloc (.cells #[] 9)).alloc (.cells #[.slice (some ⟨w.heap.size, 0, none⟩) 0 0] 40)).alloc (.cells #[] 55)).alloc (.cells #[.slice (some ⟨w.heap.size + 1 + 1, 0, none⟩) 0 0] 62)).ownsRow w.heap.size 9 1 (.slice (some ⟨w.heap.size, 0, none⟩) 0 0) 0 [] :=
    own_alloc (own_alloc (own_alloc (own_lit_of (enc := Value.string) w w.heap.size 9 ([] : List ByteArray) (Nat.le_refl _) (by simp)) _) _) _
  have hrw2 : ((((w.alloc (.cells #[] 9)).alloc (.cells #[.slice (some ⟨w.heap.size, 0, none⟩) 0 0] 40)).alloc (.cells #[] 55)).alloc (.cells #[.slice (some ⟨w.heap.size + 1 + 1, 0, none⟩) 0 0] 62)).ownsRow w.heap.size 55 1 (.slice (some ⟨w.heap.size + 1 + 1, 0, none⟩) 0 0) 0 [] := by
    have h_ := own_lit_of (enc := Value.int .u64) ((w.alloc (.cells #[] 9)).alloc (.cells #[.slice (some ⟨w.heap.size, 0, none⟩) 0 0] 40)) w.heap.size 55 ([] : List Int) (below_size (below_alloc (below_alloc (Below.refl _ _) _) _)) (by simp)
    rw [World.size_alloc, e1] at h_
    exact own_alloc h_ _
  have hsz : ((((w.alloc (.cells #[] 9)).alloc (.cells #[.slice (some ⟨w.heap.size, 0, none⟩) 0 0] 40)).alloc (.cells #[] 55)).alloc (.cells #[.slice (some ⟨w.heap.size + 1 + 1, 0, none⟩) 0 0] 62)).heap.size = w.heap.size + 4 := by
    rw [World.size_alloc, World.size_alloc, World.size_alloc, e1]
  generalize (((w.alloc (.cells #[] 9)).alloc (.cells #[.slice (some ⟨w.heap.size, 0, none⟩) 0 0] 40)).alloc (.cells #[] 55)).alloc (.cells #[.slice (some ⟨w.heap.size + 1 + 1, 0, none⟩) 0 0] 62) = w4 at HB4 hbx1 hbx2 hrw1 hrw2 hsz ⊢
  have HB := Aside0.mk HB4
  have HI := Aside0.mk (show Rows2 w.heap.size (w.heap.size + 1) (w.heap.size + 1 + 1 + 1) [] w4 from ⟨⟨_, hbx1, hrw1⟩, ⟨_, hbx2, hrw2⟩⟩)
  have HSz := Aside0.mk hsz
  have HL4 := Aside0.mk (HL.out.below HB.out)
  clear HB4 hbx1 hbx2 hrw1 hrw2 hsz e1
  refine ⟨trivial, ?_⟩
  refine (callsIn_wide.2 (start_l HL4.out)).mono ?_
  rintro e w1 ⟨rfl, hq⟩
  have hq2 := hq.symm
  clear hq
  subst hq2
  gi_wp2_with fail
  refine ⟨trivial, ?_⟩
  refine (all_c _ _ _).mono ?_
  rintro e w2 ⟨rfl, hq⟩
  have hq2 := hq.symm
  clear hq
  subst hq2
  gi_wp2_with fail
  have hbx := Boxed.new w4 52 (.pointer (some ⟨p, 0, none⟩))
  have hbb := Boxed.new (w4.alloc (.cells #[.pointer (some ⟨p, 0, none⟩)] 52)) 55 (.int .u64 L.start)
  rw [World.size_alloc] at hbb
  have hbA := hbx.alloc (.cells #[.int .u64 L.start] 55)
  have hB6 : Below w.heap.size w ((w4.alloc (.cells #[.pointer (some ⟨p, 0, none⟩)] 52)).alloc (.cells #[.int .u64 L.start] 55)) := below_alloc (below_alloc HB.out _) _
  have hI6 : Rows2 w.heap.size (w.heap.size + 1) (w.heap.size + 1 + 1 + 1) [] ((w4.alloc (.cells #[.pointer (some ⟨p, 0, none⟩)] 52)).alloc (.cells #[.int .u64 L.start] 55)) := by
    obtain ⟨⟨u1, q1, q2⟩, ⟨u2, q3, q4⟩⟩ := HI.out
    exact ⟨⟨u1, (q1.alloc _).alloc _, own_alloc (own_alloc q2 _) _⟩, ⟨u2, (q3.alloc _).alloc _, own_alloc (own_alloc q4 _) _⟩⟩
  have hs6 : ((w4.alloc (.cells #[.pointer (some ⟨p, 0, none⟩)] 52)).alloc (.cells #[.int .u64 L.start] 55)).heap.size = w4.heap.size + 2 := by rw [World.size_alloc, World.size_alloc]
  have hL6 := HL4.out.below (below_alloc (below_alloc (Below.refl _ _) (.cells #[.pointer (some ⟨p, 0, none⟩)] 52)) (.cells #[.int .u64 L.start] 55))
  have hz4 := HSz.out
  generalize (w4.alloc (.cells #[.pointer (some ⟨p, 0, none⟩)] 52)).alloc (.cells #[.int .u64 L.start] 55) = wl at hbb hbA hB6 hI6 hs6 hL6 ⊢
  obtain ⟨kb, hkb⟩ : ∃ k, k = w4.heap.size := ⟨_, rfl⟩
  rw [← hkb] at hbb hbA hs6 hz4 ⊢
  obtain ⟨n0, hn0⟩ : ∃ k, k = w.heap.size := ⟨_, rfl⟩
  have HLt := Aside0.mk (show (∀ k, S k → k < n0) ∧ p < n0 ∧ w0.heap.size ≤ n0 by rw [hn0]; exact ⟨fun k hk => (HL.out.D.lt k hk).2, HL.out.lt, HL.out.D.B.size⟩)
  rw [← hn0] at hB6 hI6 hz4 ⊢
  have hTl : (L.alls M L.start).length ≤ 65537 := by
    have := all_len L M ((L.next - L.start).toNat + 1) L.start 0
    have h1 := HK.out.nr
    have h2 := HK.out.fn
    have h3 := HK.out.f0
    have h4 := HK.out.n6
    unfold LA.alls
    omega
  have hLs := HK.out.sn
  obtain ⟨T, hT⟩ : ∃ T, T = L.alls M L.start := ⟨_, rfl⟩
  have HSQ := all_s hL6 (n0 := n0) HLt.out.2.2 (by omega) HLt.out.1 HLt.out.2.1 HK.out hY L.start (Int.le_refl _) hLs kb (kb + 1) hbA.cell hbb.cell
  rw [← hT] at HSQ hTl
  have HN0 := Aside0.mk hn0
  have HT := Aside0.mk hT
  have hle1 : n0 + 4 ≤ kb := by omega
  have hle2 : kb + 2 ≤ wl.heap.size := by omega
  have hle3 : n0 ≤ w.heap.size := by omega
  clear HI HL4 hbx hLs hL6 hn0 hkb hz4 hs6 hT
  obtain ⟨i0, hi, hz0, hz1, hz2⟩ := info_parts infoStr
  obtain ⟨j0, hj, hy0, hy1, hy2⟩ := info_parts infoU
  refine range_H (n := 4) rfl (by decide) (gf := 58) (lb := #[.pointer (some ⟨kb, 0, none⟩), .pointer (some ⟨kb + 1, 0, none⟩)]) rfl trivial (enters_of Try.func58 (by kernel_rfl) rfl) HSQ
    (fun h k => h.trans k) (fun A l o o' hl ho hc => ⟨(Below.refl n0 A).grown (grownBy_putObj' A l o') (by have := (Array.getElem?_eq_some_iff.1 ho).1; omega) (fun k e => by cases e; omega), World.putObj_heap_other (by omega)⟩) (fun _ => rfl)
    (fun pre x A l o o' hx ho hc => ⟨ownsRow_putObj hx.1 o' ho hc, hx.2⟩)
    (fun pre W => Rows2 n0 (n0 + 1) (n0 + 1 + 1 + 1) pre W ∧ (Boxed W kb 52 (.pointer (some ⟨p, 0, none⟩)) ∧ Below n0 w W)) (fun _ _ _ => False)
    (OwnFrom.and (Own.from (rows2_own _ _ _) _) (OwnFrom.and (Own.from (boxed_own _ _ _) _) (ownFrom_below (by omega) (by omega)))) (fun _ _ _ _ _ hs _ _ => hs)
    ⟨hI6, hbA, hB6⟩
    (fun x => { tmps := #[.pointer (some ⟨p, 0, none⟩), undef, .slice none 0 0, .slice none 0 0, .pointer (some ⟨n0 + 1, 0, none⟩), .pointer (some ⟨n0 + 1 + 1 + 1, 0, none⟩), .int .u64 x.n, x.v, .slice (some ⟨n0, 0, none⟩) 0 0, .slice (some ⟨n0 + 1 + 1, 0, none⟩) 0 0, .pointer (some ⟨p, 0, none⟩), .pointer (some ⟨p, 0, none⟩), .int .u64 L.start, .func (.func 58) #[] #[.pointer (some ⟨kb, 0, none⟩), .pointer (some ⟨kb + 1, 0, none⟩)], .int .u64 x.n, x.v, undef, undef, undef, undef, undef, undef, undef, undef, undef, undef, undef], defers := [] }) ?assign ?body ?done ?stop
  case assign =>
    intro l x W K hK
    simp only [encs]
    gi_wp2
    exact hK
  case body =>
    rintro l pre ⟨xn, xv, xb⟩ W ⟨⟨⟨v1, hb1, hr1⟩, ⟨v2, hb2, hr2⟩⟩, hkb, hB⟩ ⟨hown, hpre⟩ hlt
    have hpl : pre.length + 1 ≤ 65537 := by
      have h_ := hpre.length_le
      simp only [List.length_append, List.length_map, List.length_cons, List.length_nil] at h_
      omega
    have hR := Kd.R_of_own (h1 := fun _ => rfl) (ok := fun _ => True) hown (fun _ _ => trivial)
    obtain ⟨A, c, hv, hl, hC⟩ := Kd.R_reads hR
    have hcv := cv_all hC (Below.refl _ _) c
    simp only at hv
    subst hv
    have hn0W := hB.size
    have hnW : n0 ≤ W.heap.size := by omega
    have HP := Aside0.mk (And.intro hb1 (And.intro hr1 (And.intro hb2 (And.intro hr2 hB))))
    have hc1 := hb1.cell
    have hf1 := hb1.frozen
    have HKb := Aside0.mk hkb
    clear hown hpre hR hl hC hb1 hr1 hb2 hr2 hB hkb
    gi_wp2_with (first
      | (gi_at_builtin; refine wpListIn_append_own _ rfl _ _ 40 rfl n0 9 i0 (.string ⟨#[]⟩) 1 16 Try.underlying40 hi hz0 hz1 hz2 rfl (by decide) _ _ _ rfl (own_alloc HP.out.2.1 _) ⟨W.heap.size, 0, none⟩ 1 1 [.string (strOfNums xb)] rfl rfl (cell_one_new _ _ _) (by simp [Value.oneCell']) (by simp only [maxLen]; omega) (by omega) (by rw [World.size_alloc]; omega) ?_; intro v' w1 hown' hgrow _; obtain ⟨g', cap', rfl⟩ := ownsRow_succ hown'; obtain ⟨⟨hc2, hf2⟩, hA1⟩ := grow1 HP.out.1 HP.out.2.1 HP.out.2.2.1 HP.out.2.2.2.1 hnW (by omega) (by omega) (by decide) (by decide) (by decide) (by decide) hown' hgrow; have HA1 := Aside0.mk hA1; have hc3 := hA1.2.2.2.2.1.cell; have hf3 := hA1.2.2.2.2.1.frozen; have hs3 := Aside0.mk hA1.2.2.1.size; clear hc1 hf1 hown' hgrow hA1)
      | (gi_at_builtin; refine wpListIn_append_own _ rfl _ _ 62 rfl n0 55 j0 (.int .u64 0) 1 8 Try.underlying62 hj hy0 hy1 hy2 rfl (by decide) _ _ _ rfl (own_alloc HA1.out.2.2.2.2.2.1 _) ⟨w1.heap.size, 0, none⟩ 1 1 [.int .u64 xn] rfl rfl (fun j u hj => by have h_ := cell_one_new (w1.setCell ⟨n0 + 1, 0, none⟩ (.slice (some ⟨g', 0, none⟩) (pre.length + 1) cap')) (.int .u64 xn) 55 j u hj; rw [show (w1.setCell ⟨n0 + 1, 0, none⟩ (.slice (some ⟨g', 0, none⟩) (pre.length + 1) cap')).heap.size = w1.heap.size by simp [World.setCell]] at h_; exact h_) (by simp [Value.oneCell']) (by simp only [maxLen]; omega) (by omega) (by rw [World.size_alloc]; exact Nat.le_trans (Nat.le_trans hnW hs3.out) (Nat.le_succ _)) ?_; intro v'' w2 hown2 hgrow2 _; obtain ⟨g2, cap2, rfl⟩ := ownsRow_succ hown2; obtain ⟨⟨hc4, hf4⟩, hA2⟩ := grow1 HA1.out.2.2.2.2.1 HA1.out.2.2.2.2.2.1 HA1.out.1 HA1.out.2.1 (Nat.le_trans hnW hs3.out) (by omega) (by omega) (by decide) (by decide) (by decide) (by decide) hown2 hgrow2; have HA2 := Aside0.mk hA2; clear hc3 hf3 hown2 hgrow2 hA2))
    have hb4 := HA2.out
    have hb3 := HA1.out
    have q1 := hb3.2.2.2.2.2.2 kb HKb.out.lt ⟨_, _, _, HKb.out, by decide⟩ (by omega)
    have q2 : Boxed (w1.setCell ⟨n0 + 1, 0, none⟩ (.slice (some ⟨g', 0, none⟩) (pre.length + 1) cap')) kb 52 (.pointer (some ⟨p, 0, none⟩)) := q1.trans HKb.out
    have q3 := hb4.2.2.2.2.2.2 kb q2.lt ⟨_, _, _, q2, by decide⟩ (by omega)
    exact ⟨(hb3.2.2.1.from _).trans (hb4.2.2.1.from _), ⟨hb3.2.2.2.1.trans hb4.2.2.2.1, q3.trans q1⟩, ⟨⟨_, hb4.2.2.2.2.1, by simpa [outV] using hb4.2.2.2.2.2.1⟩, ⟨_, hb4.1, by simpa [atV] using hb4.2.1⟩⟩, q3.trans q2, HP.out.2.2.2.2.trans (hb3.2.2.2.1.trans hb4.2.2.2.1)⟩
  case done =>
    rintro D xs W hD hS ⟨⟨⟨v1, hb1, hr1⟩, ⟨v2, hb2, hr2⟩⟩, _, hB⟩ hKd
    have hc1 := hb1.cell
    have hc2 := hb2.cell
    gi_upto_region 8 with fail
    gi_quiet (fail)
    gi_wp2
    refine ⟨by simp, .inl ⟨_, _, rfl, run_takeDeferred (show (W.drewN nq).heap[D]? = _ from hKd), ?_⟩⟩
    exact ⟨_, results_tmp2 rfl _ _ _, v1, v2, xs, rfl, by rw [hS, HT.out], by rw [← HN0.out]; exact ownsRow_putObj (own_below2 hr1 (below_drewN W nq)) _ hKd rfl, by rw [← HN0.out]; exact ownsRow_putObj (own_below2 hr2 (below_drewN W nq)) _ hKd rfl, by
      rw [← HN0.out]
      exact (hB.trans ((below_drewN W nq).mono (by have := hB.size; omega))).trans (belowK_b (w := wl) (by omega) _ D _ _ hD hKd rfl rfl)⟩
  case stop =>
    rintro D c pre W _ _ h _
    exact h.elim
end
end Go.Proofs.Ytihmfccpgahmaaa.Wal

namespace Go.Proofs.Ytihmfccpgahmaaa.Wal
open Go Go.RowKit
open Go.Proofs.YtihmfccpgahmaaaW.PrintWords hiding Kept Kept.refl
open Go.Proofs.YtihmfccpgahmaaaW.PrintMore Go.Proofs.YtihmfccpgahmaaaW.PrintLast Go.Proofs.Ytihmfccpgahmaaa.Dk Go.Proofs.Ytihmfccpgahmaaa.Q Go.Proofs.Ytihmfccpgahmaaa.Str Go.Proofs.Ytihmfccpgahmaaa.Leb
set_option linter.unusedVariables false
set_option linter.unusedSimpArgs false
section
variable {w0 w W : World} {p g : Nat} {S : Nat → Prop} {L : LA} {M : DA}
theorem mkM_now : (L.mkM M).now.length = M.now.length := by
  unfold LA.mkM
  split
  · rw [sy_now, wr_now]
  · exact wr_now _ _ _
theorem mkM_DY (h : DY M) : DY (L.mkM M) := by
  unfold LA.mkM
  split
  · exact (h.wr _ (mb_byt _)).sy
  · exact h.wr _ (mb_byt _)
theorem mkM_wait : (L.mkM M).wait.length ≤ M.wait.length + 1 := by
  unfold LA.mkM
  split
  · exact Nat.le_trans (sy_waitle _) (wr_wait _ _ _)
  · exact wr_wait _ _ _
theorem opn_cases (M : DA) (fr n : Int) : ((opn M fr n).L = none ∧ (opn M fr n).M = M) ∨ ∃ L : LA, (opn M fr n).L = some L.up ∧ (opn M fr n).e = L.mkE M ∧ (opn M fr n).M = L.mkM M ∧ 2 < n ∧ 0 ≤ fr ∧ n ≤ (M.now.length : Int) - fr ∧
    ∃ s : Scan, ∃ L2 : LA, L2 = (⟨fr, n - 2, 0, 0, 0, 0, 0, 0⟩ : LA).msK M 2 ∧ s = L2.scan M (n - 2 + 1).toNat L2.start L2.floor ∧ s.e = 0 ∧ mxI L2.life s.life < 1099511627776 ∧ L = L2.fin s (mxI L2.life s.life) := by
  unfold opn
  split
  · exact .inl ⟨rfl, rfl⟩
  · rename_i h
    unfold LA.opn1
    split
    · exact .inl ⟨rfl, rfl⟩
    · split
      · exact .inl ⟨rfl, rfl⟩
      · unfold LA.opn2
        split
        · exact .inl ⟨rfl, rfl⟩
        · rename_i hs
          split
          · exact .inl ⟨rfl, rfl⟩
          · rename_i hm
            exact .inr ⟨_, rfl, rfl, rfl, by omega, by omega, by omega, _, _, rfl, rfl, Decidable.not_not.1 hs, Int.not_le.1 hm, rfl⟩
theorem scan_fit (hY : DY M) (hr : 0 ≤ L.ring) (k : Nat) : ∀ nx lf : Int, L.start ≤ nx → nx ≤ L.start + L.ring → 0 ≤ lf → L.start ≤ (L.scan M k nx lf).next ∧ (L.scan M k nx lf).next ≤ L.start + L.ring ∧ 0 ≤ (L.scan M k nx lf).life := by
  induction k with
  | zero => intro nx lf h1 h2 h3; exact ⟨h1, h2, h3⟩
  | succ k ih =>
    intro nx lf h1 h2 h3
    rw [scan_succ]
    split
    · exact ⟨h1, h2, h3⟩
    · split
      · rename_i hok
        have := entry_fit (L := L) hY hok h2
        exact ih _ _ (by omega) this.2.1 this.2.2.1
      · exact ⟨h1, h2, h3⟩
/-- An opened log's numbers are within their bounds. -/
theorem opn_ok (hY : DY M) (h6 : M.now.length ≤ 65536) {fr n : Int} (h : (opn M fr n).L = some L) : L.Ok (opn M fr n).M.now.length := by
  rcases opn_cases M fr n with ⟨h1, _⟩ | ⟨L3, h1, _, h3, h4, h5, h7, s, L2, hL2, hs, _, hm, hL3⟩
  · rw [h1] at h; cases h
  · rw [h1] at h
    injection h with h
    subst h
    rw [h3, mkM_now]
    have hfit := msK_fit (L := ⟨fr, n - 2, 0, 0, 0, 0, 0, 0⟩) hY ⟨⟨Int.le_refl _, by show (0 : Int) ≤ _; decide⟩, ⟨Int.le_refl _, by show (0 : Int) ≤ _; decide⟩, ⟨Int.le_refl _, by show (0 : Int) ≤ _; decide⟩, ⟨Int.le_refl _, by show (0 : Int) ≤ _; decide⟩⟩ 2
    have hgeo := msK_geo (⟨fr, n - 2, 0, 0, 0, 0, 0, 0⟩ : LA) M 2
    rw [← hL2] at hfit hgeo
    obtain ⟨g1, g2, g3, g4⟩ := hgeo
    replace g1 : L2.fr = fr := g1
    replace g2 : L2.ring = n - 2 := g2
    have hsc := scan_fit (L := L2) hY (by omega) (n - 2 + 1).toNat L2.start L2.floor (Int.le_refl _) (by omega) hfit.f.1
    rw [← hs] at hsc
    obtain ⟨q1, q2⟩ := hfit.q
    obtain ⟨l1, l2⟩ := hfit.l
    obtain ⟨s1, s2⟩ := hfit.s
    obtain ⟨f1, f2⟩ := hfit.f
    have hml : 0 ≤ mxI L2.life s.life := by unfold mxI; split <;> omega
    subst hL3
    refine { f0 := ?_, r0 := ?_, fn := ?_, n6 := h6, q0 := ?_, q1 := ?_, l0 := ?_, l1 := ?_, s0 := ?_, o0 := ?_, o1 := ?_, sn := ?_, nr := ?_, nx := ?_, c0 := ?_, c1 := ?_ }
    · show 0 ≤ L2.fr; omega
    · show 0 < L2.ring; omega
    · show L2.fr + 2 + L2.ring ≤ _; omega
    · show 0 ≤ L2.seq + 1; omega
    · show L2.seq + 1 ≤ _; omega
    · show 0 ≤ mxI L2.life s.life + 1; omega
    · show mxI L2.life s.life + 1 ≤ _; omega
    · show 0 ≤ L2.start; omega
    · show 0 ≤ (if s.next = L2.start then mxI L2.life s.life + 1 else L2.floor); split <;> omega
    · show (if s.next = L2.start then mxI L2.life s.life + 1 else L2.floor) ≤ _; split <;> omega
    · show L2.start ≤ s.next; omega
    · show s.next ≤ L2.start + L2.ring; omega
    · show s.next ≤ _; omega
    · show 0 ≤ s.next; omega
    · exact Int.le_refl _
theorem opn_DY (hY : DY M) (fr n : Int) : DY (opn M fr n).M := by
  rcases opn_cases M fr n with ⟨_, h⟩ | ⟨L3, _, _, h, _⟩ <;> rw [h]
  · exact hY
  · exact mkM_DY hY
theorem opn_now (fr n : Int) : (opn M fr n).M.now.length = M.now.length := by
  rcases opn_cases M fr n with ⟨_, h⟩ | ⟨L3, _, _, h, _⟩ <;> rw [h]
  exact mkM_now
theorem opn_wait (fr n : Int) : (opn M fr n).M.wait.length ≤ M.wait.length + 1 := by
  rcases opn_cases M fr n with ⟨_, h⟩ | ⟨L3, _, _, h, _⟩ <;> rw [h]
  · exact Nat.le_succ _
  · exact mkM_wait
/-- What an Append leaves. -/
structure AppOk (L : LA) (M : DA) (k : Nat) (R : App) : Prop where
  geo : R.L.fr = L.fr ∧ R.L.ring = L.ring ∧ R.L.seq = L.seq ∧ R.L.life = L.life ∧ R.L.start = L.start ∧ R.L.floor = L.floor ∧ R.L.forced = L.forced
  nx : L.next ≤ R.L.next ∧ R.L.next ≤ L.next + k
  now : R.M.now.length = M.now.length
  w : R.M.wait.length ≤ M.wait.length + k
  y : DY M → DY R.M
theorem app_ok' (k : Nat) : ∀ (L : LA) (M : DA) (r : List Int), Byt r → AppOk L M k (L.app M k r) := by
  induction k with
  | zero => intro L M r _; exact ⟨⟨rfl, rfl, rfl, rfl, rfl, rfl, rfl⟩, ⟨Int.le_refl _, by show L.next ≤ L.next + _; omega⟩, rfl, Nat.le_refl _, id⟩
  | succ k ih =>
    intro L M r hr
    rw [app_succ]
    have hb : Byt (secB L.next L.life (decide (r.length ≤ 480)) (r.take 480)) := sec_byt (hr.take 480)
    have hw := wr_wait M (L.pl L.next) (secB L.next L.life (decide (r.length ≤ 480)) (r.take 480))
    have one : ∀ e, AppOk L M (k + 1) ⟨L.app1, M.wr (L.pl L.next) (secB L.next L.life (decide (r.length ≤ 480)) (r.take 480)), e⟩ := fun e =>
      ⟨⟨rfl, rfl, rfl, rfl, rfl, rfl, rfl⟩, ⟨by show L.next ≤ L.next + 1; omega, by show L.next + 1 ≤ L.next + _; omega⟩, wr_now _ _ _, by show (M.wr (L.pl L.next) (secB L.next L.life (decide (r.length ≤ 480)) (r.take 480))).wait.length ≤ M.wait.length + (k + 1); omega, fun h => h.wr _ hb⟩
    split
    · split
      · exact one 0
      · have h := ih L.app1 (M.wr (L.pl L.next) (secB L.next L.life (decide (r.length ≤ 480)) (r.take 480))) (r.drop 480) (hr.drop 480)
        obtain ⟨n1, n2⟩ := h.nx
        exact ⟨h.geo, ⟨by have : L.app1.next = L.next + 1 := rfl; omega, by have : L.app1.next = L.next + 1 := rfl; omega⟩, h.now.trans (wr_now _ _ _), by have := h.w; omega, fun hy => h.y (hy.wr _ hb)⟩
    · exact one _
theorem append_ok' (L : LA) (M : DA) {l : List Int} (hl : Byt l) : AppOk L M 40 ⟨(L.append M l).L, (L.append M l).M, 0⟩ ∧ ((L.append M l).L = L ∨ needN l.length ≤ L.free ∧ (L.append M l).L.next ≤ L.next + needN l.length) := by
  have refl : AppOk L M 40 ⟨L, M, 0⟩ := ⟨⟨rfl, rfl, rfl, rfl, rfl, rfl, rfl⟩, ⟨Int.le_refl _, by show L.next ≤ L.next + _; omega⟩, rfl, Nat.le_add_right _ _, id⟩
  unfold LA.append
  split
  · exact ⟨refl, .inl rfl⟩
  · rename_i h1
    split
    · exact ⟨refl, .inl rfl⟩
    · rename_i h2
      have h := app_ok' (needN l.length) L M l hl
      have hn : needN l.length ≤ 40 := by unfold needN; omega
      obtain ⟨n1, n2⟩ := h.nx
      exact ⟨⟨h.geo, ⟨n1, by show (L.app M (needN l.length) l).L.next ≤ _; omega⟩, h.now, by have := h.w; show (L.app M (needN l.length) l).M.wait.length ≤ _; omega, h.y⟩, .inr ⟨by omega, n2⟩⟩
theorem append_Ok (hk : L.Ok M.now.length) {l : List Int} (hl : Byt l) (hx : L.next ≤ 4611686018437380000) : (L.append M l).L.Ok (L.append M l).M.now.length := by
  obtain ⟨h, h2⟩ := append_ok' L M hl
  have hnow : (L.append M l).M.now.length = M.now.length := h.now
  rw [hnow]
  obtain ⟨g1, g2, g3, g4, g5, g6, g7⟩ := h.geo
  simp only at g1 g2 g3 g4 g5 g6 g7
  obtain ⟨n1, n2⟩ := h.nx
  simp only at n1 n2
  have hfr : (L.append M l).L.next ≤ L.start + L.ring := by
    rcases h2 with h3 | ⟨h3, h4⟩
    · rw [h3]; exact hk.nr
    · unfold LA.free at h3; omega
  exact { f0 := (by rw [g1]; exact hk.f0), r0 := (by rw [g2]; exact hk.r0), fn := (by rw [g1, g2]; exact hk.fn), n6 := hk.n6, q0 := (by rw [g3]; exact hk.q0), q1 := (by rw [g3]; exact hk.q1), l0 := (by rw [g4]; exact hk.l0), l1 := (by rw [g4]; exact hk.l1), s0 := (by rw [g5]; exact hk.s0), o0 := (by rw [g6]; exact hk.o0), o1 := (by rw [g6]; exact hk.o1), sn := (by rw [g5]; have := hk.sn; omega), nr := (by rw [g5, g2]; exact hfr), nx := (by omega), c0 := (by rw [g7]; exact hk.c0), c1 := (by rw [g7]; have := hk.c1; omega) }
theorem new_DY (n : Nat) : DY (DA.new n) := by
  have h : ∀ s ∈ List.replicate n ([] : List Int), Byt s := fun s hs => by rw [(List.mem_replicate.1 hs).2]; exact Byt.nil
  exact ⟨h, h, fun x hx => by cases hx⟩
theorem onK_DY (keep : List Bool) (tear : Int) (h : DY M) (k : Nat) : DY (DA.onK keep tear M k) := by
  induction k with
  | zero => exact h
  | succ k ih =>
    show DY (DA.onP keep tear (DA.onK keep tear M k) k (M.wait.getD k (0, [])))
    have hx : Byt (M.wait.getD k (0, [])).2 := by
      rw [List.getD_eq_getElem?_getD]
      cases he : M.wait[k]? with
      | none => exact Byt.nil
      | some x => exact h.wait x (List.mem_of_getElem? he)
    unfold DA.onP
    split
    · refine ⟨ih.now, fun s hs => ?_, ih.wait⟩
      rcases List.mem_or_eq_of_mem_set hs with h2 | h2
      · exact ih.safe s h2
      · rw [h2]; exact hx
    · split
      · exact ⟨ih.now, ih.safe, ih.wait⟩
      · exact ih
theorem on_DY (keep : List Bool) (tear : Int) (h : DY M) : DY (M.on keep tear) := by
  have h1 := onK_DY keep tear h M.wait.length
  exact ⟨h1.safe, h1.safe, fun x hx => by cases hx⟩
end
/-- found, told as rows. -/
theorem found_l {w0 w : World} {p g : Nat} {S : Nat → Prop} {L : LA} {M : DA} (h : Lg w0 w p g S L M) (hk : L.Ok M.now.length) (hY : DY M) : Calls Try.prog 39 #[.pointer (some ⟨p, 0, none⟩)] w fun e w' =>
    ∃ v1 v2, e = .returned (.tuple #[v1, v2]) ∧ Kd.string.R 9 w' w.heap.size (fun _ => True) v1 ((L.alls M L.start).map fun x => strOfNums x.2) ∧ (Kd.int .u64).R 55 w' w.heap.size (fun _ => True) v2 ((L.alls M L.start).map fun x => x.1) ∧ Below w.heap.size w w' := by
  refine (callsIn_wide.1 (found_in h hk hY)).mono ?_
  rintro e w' ⟨v1, v2, xs, rfl, hT, h1, h2, hb⟩
  have e1 : (L.alls M L.start).map (fun x => strOfNums x.2) = xs.map (fun x => strOfNums x.b) := by rw [← hT, List.map_map]; rfl
  have e2 : (L.alls M L.start).map (fun x => x.1) = xs.map (fun x => x.n) := by rw [← hT, List.map_map]; rfl
  rw [e1, e2]
  refine ⟨v1, v2, rfl, Kd.R_of_own (h1 := fun _ => rfl) (enc := Value.string) ?_ (fun _ _ => trivial), Kd.R_of_own (h1 := fun _ => rfl) (enc := Value.int .u64) ?_ (fun _ _ => trivial), hb⟩
  · have h3 : (Go.Proofs.YtihmfccpgahmaaaW.PrintWords.encs Value.string (xs.map fun x => strOfNums x.b)) = xs.map outV := by simp [Go.Proofs.YtihmfccpgahmaaaW.PrintWords.encs, outV, Function.comp_def]
    rw [h3, List.length_map]; exact h1
  · have h3 : (Go.Proofs.YtihmfccpgahmaaaW.PrintWords.encs (Value.int .u64) (xs.map fun x => x.n)) = xs.map atV := by simp [Go.Proofs.YtihmfccpgahmaaaW.PrintWords.encs, atV, Function.comp_def]
    rw [h3, List.length_map]; exact h2
end Go.Proofs.Ytihmfccpgahmaaa.Wal

namespace Go.Proofs.Ytihmfccpgahmaaa.Wal
open Go Go.RowKit
open Go.Proofs.YtihmfccpgahmaaaW.PrintWords hiding Kept Kept.refl
open Go.Proofs.YtihmfccpgahmaaaW.PrintMore Go.Proofs.YtihmfccpgahmaaaW.PrintLast Go.Proofs.Ytihmfccpgahmaaa.Dk Go.Proofs.Ytihmfccpgahmaaa.Q Go.Proofs.Ytihmfccpgahmaaa.Str Go.Proofs.Ytihmfccpgahmaaa.Leb
set_option linter.unusedVariables false
set_option linter.unusedSimpArgs false
def hM0 : DA := DA.new (newN 20).toNat
def hO1 : OpR := opn hM0 2 10
def hL1 : LA := hO1.L.getD ⟨0, 0, 0, 0, 0, 0, 0, 0⟩
def hA1 : AppR := hL1.append hO1.M [97]
def hF1 : CutR := hA1.L.force hA1.M
def hA2 : AppR := hF1.L.append hF1.M [98]
def hM5 : DA := hA2.M.on [] (-1)
def hO2 : OpR := opn hM5 2 10
def hL2 : LA := hO2.L.getD ⟨0, 0, 0, 0, 0, 0, 0, 0⟩
theorem get_some {α : Type} (x : Option α) (d : α) (h : x.isSome = true) : x = some (x.getD d) := by cases x <;> simp_all
set_option maxRecDepth 100000 in
/-- The example, step by step. -/
theorem hd_p : hO1.L = some hL1 ∧ hO1.e = 0 ∧ hL1.life = 1 ∧ hA1.e = 0 ∧ hF1.e = 0 ∧ hO2.L = some hL2 ∧ hO2.e = 0 ∧ hL2.life = 2 ∧ hL2.alls hO2.M hL2.start = [(0, [97])] ∧ hL1.next = 0 ∧ hF1.L.next = 1 ∧ hA2.M.wait.length = 1 :=
  ⟨get_some _ _ (by decide +kernel), by decide +kernel, by decide +kernel, by decide +kernel, by decide +kernel, get_some _ _ (by decide +kernel), by decide +kernel, by decide +kernel, by decide +kernel, by decide +kernel, by decide +kernel, by decide +kernel⟩
section
variable {w0 w W : World} {p g : Nat} {S : Nat → Prop} {L : LA} {M : DA}
theorem open_s (hD : St w0 w g S M) (hY : DY M) (hw : M.wait.length < 900000) (fr n : Int) (hn1 : n < 9223372036854775808) (hn0 : -9223372036854775808 ≤ n) (hL : (opn M fr n).L = some L) : Calls Try.prog 35 #[.pointer (some ⟨g, 0, none⟩), .int .i64 fr, .int .i64 n] w fun e w' =>
    ∃ p S', e = .returned (.tuple #[.pointer (some ⟨p, 0, none⟩), .int .i64 (opn M fr n).e]) ∧ w.heap.size ≤ p ∧ Lg w0 w' p g S' L (opn M fr n).M ∧ (∀ k, S' k → S k ∨ w.heap.size ≤ k) ∧ Kept w w' S := by
  refine (open_l hD hY hw fr n hn1 hn0).mono ?_
  rintro e w' ⟨v, rfl, hk, ⟨hN, _⟩ | ⟨p, S', L2, hL2, rfl, hp, hl, hs⟩⟩
  · rw [hL] at hN; cases hN
  · rw [hL] at hL2
    injection hL2 with hL2
    subst hL2
    exact ⟨p, S', rfl, hp, hl, hs, hk⟩
/-- A row that was just made is none of a log's. -/
theorem lit_l (h : Lg w0 w p g S L M) {cs : Array Value} {e : Nat} {fr : Nat × Nat} {W : World} (hk : Kept (w.alloc (.cells cs e fr)) W (fun k => S k ∨ k = p)) : W.heap[w.heap.size]? = some (.cells cs e fr) :=
  lit_kept (blk_new _ _) hk (fun h2 => h2.elim (fun h3 => Nat.lt_irrefl _ (h.D.lt _ h3).2) (fun h3 => by have := h.lt; omega))
theorem Lg.alloc (h : Lg w0 w p g S L M) (o : Obj) : Lg w0 (w.alloc o) p g S L M := h.below (below_alloc (Below.refl _ _) o)
set_option maxRecDepth 100000 in
theorem hd_all : ∃ (M0 : DA) (L1 L2 : LA) (O1 O2 : OpR) (A1 A2 : AppR) (F1 : CutR), Aside0 (M0 = DA.new (newN 20).toNat ∧ DY M0 ∧ M0.wait.length = 0) ∧
    Aside0 (O1 = opn M0 2 10 ∧ O1.L = some L1 ∧ L1.Ok O1.M.now.length ∧ DY O1.M ∧ O1.M.wait.length ≤ 1 ∧ L1.next ≤ 100) ∧ O1.e = 0 ∧ L1.life = 1 ∧
    Aside0 (A1 = L1.append O1.M [97] ∧ A1.L.Ok A1.M.now.length ∧ DY A1.M ∧ A1.M.wait.length ≤ 50) ∧ A1.e = 0 ∧
    Aside0 (F1 = A1.L.force A1.M ∧ F1.L.Ok F1.M.now.length ∧ DY F1.M ∧ F1.M.wait.length ≤ 50 ∧ F1.L.next ≤ 100) ∧ F1.e = 0 ∧
    Aside0 (A2 = F1.L.append F1.M [98] ∧ DY A2.M ∧ A2.M.wait.length ≤ 100) ∧
    Aside0 (O2 = opn (A2.M.on [] (-1)) 2 10 ∧ O2.L = some L2 ∧ L2.Ok O2.M.now.length ∧ DY O2.M ∧ L2.alls O2.M L2.start = [(0, [97])]) ∧ O2.e = 0 ∧ L2.life = 2 := by
  obtain ⟨q1, q2, q3, q4, q5, q6, q7, q8, q9, q10, q11, q12⟩ := hd_p
  have b97 : Byt [97] := fun x hx => by simp at hx; omega
  have b98 : Byt [98] := fun x hx => by simp at hx; omega
  have y0 : DY hM0 := new_DY _
  have n0 : hM0.now.length = 20 := by decide +kernel
  have y1 : DY hO1.M := opn_DY y0 2 10
  have w1 : hO1.M.wait.length ≤ 1 := opn_wait (M := hM0) 2 10
  have k1 : hL1.Ok hO1.M.now.length := opn_ok (M := hM0) (fr := 2) (n := 10) y0 (by omega) q1
  obtain ⟨a1, _⟩ := append_ok' hL1 hO1.M b97
  have k2 : hA1.L.Ok hA1.M.now.length := append_Ok k1 b97 (by omega)
  have y2 : DY hA1.M := a1.y y1
  have w2 : hA1.M.wait.length ≤ 50 := by have : hA1.M.wait.length ≤ hO1.M.wait.length + 40 := a1.w; omega
  have g3 := force_geo (L := hA1.L) (M := hA1.M)
  have k3 : hF1.L.Ok hF1.M.now.length := by
    have h : hF1.M.now.length = hA1.M.now.length := g3.2.2.2.2.2.2.2
    rw [h]; exact force_ok k2
  have y3 : DY hF1.M := force_DY y2
  have w3 : hF1.M.wait.length ≤ 50 := Nat.le_trans force_wait w2
  obtain ⟨a2, _⟩ := append_ok' hF1.L hF1.M b98
  have y4 : DY hA2.M := a2.y y3
  have w4 : hA2.M.wait.length ≤ 100 := by have : hA2.M.wait.length ≤ hF1.M.wait.length + 40 := a2.w; omega
  have y5 : DY hM5 := on_DY [] (-1) y4
  have k6 : hL2.Ok hO2.M.now.length := opn_ok (M := hM5) (fr := 2) (n := 10) y5 (by decide +kernel) q6
  exact ⟨hM0, hL1, hL2, hO1, hO2, hA1, hA2, hF1, ⟨rfl, y0, rfl⟩, ⟨rfl, q1, k1, y1, w1, by omega⟩, q2, q3, ⟨rfl, k2, y2, w2⟩, q4, ⟨rfl, k3, y3, w3, by omega⟩, q5, ⟨rfl, y4, w4⟩, ⟨rfl, q6, k6, opn_DY y5 2 10, q9⟩, q7, q8⟩
theorem eqIn_fn (d f : Nat) (ps : Array Value) (w : World) : (Op.equalIn (d + 1) 69 (.func (.func f) #[] ps) .nilFunc).run Try.prog w = .ok false w := by
  simp [Op.equalIn, run_underlying Try.underlying69]
theorem eql_fn (f : Nat) (ps : Array Value) (w : World) : (binOp .eql 69 (.func (.func f) #[] ps) .nilFunc).run Try.prog w = .ok (.bool false) w := by
  simp only [binOp]
  simp [Op.equal, Op.maxDepth, eqIn_fn 9999 f ps w]
set_option maxRecDepth 100000 in
set_option maxHeartbeats 4000000 in
theorem head_ok (w : World) : Calls Try.prog 32 #[] w fun e w' => e = .returned (.bool true) ∧ Below w.heap.size w w' := by
  have hcv := fun (w : World) (C : Array Value) (n c : Nat) => Lib.run_convert_bytes_const (P := Try.prog) w 22 5 C n c Try.underlying22 Try.underlying5
  have hfn := eql_fn
  obtain ⟨M0, L1, L2, O1, O2, A1, A2, F1, H0, H1, e1, l1, HA, ea, HF, ef, HA2, HO2, e2, l2⟩ := hd_all
  have b97 := Aside0.mk (show Byt [97] from fun x hx => by simp at hx; omega)
  have b98 := Aside0.mk (show Byt [98] from fun x hx => by simp at hx; omega)
  replace e1 := Aside0.mk e1
  replace l1 := Aside0.mk l1
  replace ea := Aside0.mk ea
  replace ef := Aside0.mk ef
  replace e2 := Aside0.mk e2
  replace l2 := Aside0.mk l2
  go_enter Try.func32, Try.ntmps32
  go_wp2_with fail
  refine (st_new (w0 := w) _ _ (Below.refl _ _)).mono ?_
  rintro e w1 ⟨g, S, rfl, hi, _, _⟩
  rw [← H0.out.1] at hi
  have HI := Aside0.mk hi
  clear hi
  go_wp2_with fail
  refine (open_s HI.out H0.out.2.1 (by rw [H0.out.2.2]; decide) 2 10 (by decide) (by decide) (by rw [← H1.out.1]; exact H1.out.2.1)).mono ?_
  rw [← H1.out.1, e1.out]
  rintro e w2 ⟨p, S2, rfl, hp, hl, hs, hk⟩
  have HL := Aside0.mk hl
  clear hp hl hs hk HI
  go_wp2_with fail
  refine (life_l HL.out).mono ?_
  rw [l1.out]
  rintro e w' ⟨rfl, hq⟩
  have hq2 := hq.symm
  clear hq
  subst hq2
  go_wp2_with fail
  refine (append_l (HL.out.alloc _) H1.out.2.2.1 _ 1 [97] (fun W' hk => lit_C (enc := Value.int .u8) 0 [97] (lit_l HL.out hk) rfl (by decide)) (by decide) b97.out (by have := H1.out.2.2.2.2.1; omega) (by have := H1.out.2.2.2.2.2; omega)).mono ?_
  rw [← HA.out.1, ea.out]
  rintro e w3 ⟨rfl, S3, hl, _, _⟩
  clear HL
  have HL := Aside0.mk hl
  clear hl
  go_wp2_with fail
  refine (force_l HL.out (by have := HA.out.2.2.2; omega)).mono ?_
  rw [← HF.out.1, ef.out]
  rintro e w4 ⟨rfl, hl, _⟩
  clear HL
  have HL := Aside0.mk hl
  clear hl
  go_wp2_with fail
  refine (append_l (HL.out.alloc _) HF.out.2.1 _ 1 [98] (fun W' hk => lit_C (enc := Value.int .u8) 0 [98] (lit_l HL.out hk) rfl (by decide)) (by decide) b98.out (by have := HF.out.2.2.2.1; omega) (by have := HF.out.2.2.2.2; omega)).mono ?_
  rw [← HA2.out.1]
  rintro e w5 ⟨rfl, S5, hl, _, _⟩
  clear HL
  have HL := Aside0.mk hl
  clear hl
  go_wp2_with fail
  refine (st_on HL.out.D none 0 [] (fun W' hk => Kd.C_nil _ _) (by decide) (-1) (by have := HA2.out.2.2; omega)).mono ?_
  rintro e w6 ⟨rfl, hi, _⟩
  clear HL
  have HI := Aside0.mk hi
  clear hi
  go_wp2_with fail
  refine (open_s HI.out (on_DY [] (-1) HA2.out.2.1) (by show 0 < 900000; decide) 2 10 (by decide) (by decide) (by rw [← HO2.out.1]; exact HO2.out.2.1)).mono ?_
  rw [← HO2.out.1, e2.out]
  rintro e w7 ⟨p2, S7, rfl, hp, hl, hs, hk⟩
  have HL := Aside0.mk hl
  clear hp hl hs hk HI
  go_wp2_with fail
  refine (callsIn_wide.1 (all_c p2 0 w7)).mono ?_
  rintro e w8 ⟨rfl, hq⟩
  have HL8 := Aside0.mk (show Lg w w8 p2 g S7 L2 O2.M by rw [hq]; exact (HL.out.alloc _).alloc _)
  clear hq HL
  go_wp2_with fail
  refine (found_l HL8.out HO2.out.2.2.1 HO2.out.2.2.2.1).mono ?_
  rw [HO2.out.2.2.2.2]
  rintro e w9 ⟨v1, v2, rfl, hr1, hr2, hb⟩
  have HL9 := Aside0.mk (HL8.out.below hb)
  obtain ⟨k1, c1, hv1, _⟩ := Kd.R_form hr1 (by decide)
  obtain ⟨k2, c2, hv2, _⟩ := Kd.R_form hr2 (by decide)
  subst hv1 hv2
  have hc1 : w9.cell? ⟨k1, 0, none⟩ = some (.string (strOfNums [97])) := (Kd.R_celln (enc := Value.string) (h1 := fun _ => rfl) ByteArray.empty hr1 0 (by decide) (by decide)).1
  have hc2 : w9.cell? ⟨k2, 0, none⟩ = some (.int .u64 0) := (Kd.R_celln (enc := Value.int .u64) (h1 := fun _ => rfl) 0 hr2 0 (by decide) (by decide)).1
  rw [show strOfNums [97] = ⟨#[97]⟩ by decide +kernel] at hc1
  clear hr1 hr2 hb HL8
  simp only [List.map_cons, List.map_nil, List.length_cons, List.length_nil]
  go_wp2_with fail
  refine (life_l HL9.out).mono ?_
  rw [l2.out]
  rintro e w' ⟨rfl, hq⟩
  have hq2 := hq.symm
  clear hq
  subst hq2
  have HBB := Aside0.mk HL9.out.D.B
  go_wp2
  go_ret
  exact ⟨rfl, HBB.out⟩
end
end Go.Proofs.Ytihmfccpgahmaaa.Wal
