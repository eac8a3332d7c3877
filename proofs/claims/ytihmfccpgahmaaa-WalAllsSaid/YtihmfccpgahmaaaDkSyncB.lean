/- disk.Sync, walked: a sync that goes through. -/
import Derived.Test.YtihmfccpgahmaaaDkSync
namespace Go.Proofs.Ytihmfccpgahmaaa.Dk
open Go Go.RowKit Go.Proofs.YtihmfccpgahmaaaW.PrintWords Go.Proofs.YtihmfccpgahmaaaW.PrintMore Go.Proofs.YtihmfccpgahmaaaW.PrintLast
set_option linter.unusedVariables false
set_option linter.unusedSimpArgs false

section
variable {w : World} {base g : Nat} {S : Nat → Prop} {D : DkS} {r : Rws}
theorem wt_cells (h : IsD w base g S D r) {gw n c : Nat} (hv : r.w = .slice (some ⟨gw, 0, none⟩) n c) (k : Nat) (hk : k < D.wait.length) : w.cell? ⟨gw, k * 2, none⟩ = some (.int .i64 (D.wait[k]).at_) ∧ w.cell? ⟨gw, k * 2 + 1, none⟩ = some ((D.wait[k]).s.v) := by
  have h0 := h.wait
  rw [hv] at h0
  have hn := (Kd.R_reads' h0).1
  obtain ⟨cs, hl, hM, hcc, _⟩ := Kd.R_elem h0 D.wait[k] (k : Int) (by omega) (by omega)
  obtain ⟨c0, c1, rfl, h1, h2⟩ := hM
  replace h1 : c0 = [.int .i64 (D.wait.getD ((k : Int)).toNat D.wait[k]).at_] := h1
  replace h2 : c1 = [(D.wait.getD ((k : Int)).toNat D.wait[k]).s.v] := h2
  have e : D.wait.getD ((k : Int)).toNat D.wait[k] = D.wait[k] := by rw [Int.toNat_natCast]; simp [List.getD_eq_getElem?_getD, List.getElem?_eq_getElem hk]
  rw [e] at h1 h2
  subst h1 h2
  have a1 := hcc 0 _ rfl
  have a2 := hcc 1 _ rfl
  rw [Int.toNat_natCast] at a1 a2
  exact ⟨a1, a2⟩
/-- Nothing waits any longer. -/
theorem IsD.clear_wait (h : IsD w base g S D r) : IsD (w.setCell ⟨g, 4, none⟩ (.slice none 0 0)) base g S { D with wait := [] } { r with w := .slice none 0 0 } where
  blk := blk_put h.blk 4 _ rfl
  bound k hk := ⟨(h.bound k hk).1, by rw [show (w.setCell ⟨g, 4, none⟩ _).heap.size = w.heap.size by simp [World.setCell]]; exact (h.bound k hk).2⟩
  sg := h.sg
  now := R_far' h.now h.blk (by decide) _ _
  safe := R_far' h.safe h.blk (by decide) _ _
  torn := R_far' h.torn h.blk (by decide) _ _
  bad := R_far' h.bad h.blk (by decide) _ _
  wait := Kd.R_nil _ _ _ _ _
  onow s hs := R_far' (h.onow s hs) h.blk (by decide) _ _
  osafe s hs := R_far' (h.osafe s hs) h.blk (by decide) _ _
  owait s hs := by cases hs
  fnow := h.fnow
  fsafe := h.fsafe
  fwait s hs := by cases hs
  lt := h.lt
  ls := h.ls
  lb := h.lb
  lw s hs := by cases hs
  ln := h.ln
  lf := h.lf
/-- A disk in the midst of a round: one that waits is laid. -/
def midS (D : DkS) (x : Wt) (p q : Bool) : DkS := { D with safe := cond p (D.safe.set x.at_.toNat x.s) D.safe, bad := cond q (D.bad.set x.at_.toNat false) D.bad }
theorem mids_safe {x : Wt} {q : Bool} (h : IsD w base g S (midS D x false q) r) {z n c : Nat} (hv : r.s = .slice (some ⟨z, 0, none⟩) n c) (hm : x ∈ D.wait) : IsD (w.setCell ⟨z, x.at_.toNat, none⟩ x.s.v) base g S (midS D x true q) r :=
  h.put_safe hv x.at_ x.s (h.owait x hm) (h.fwait x hm)
theorem mids_bad {x : Wt} {p : Bool} (h : IsD w base g S (midS D x p false) r) {z n c : Nat} (hv : r.b = .slice (some ⟨z, 0, none⟩) n c) : IsD (w.setCell ⟨z, x.at_.toNat, none⟩ (.bool false)) base g S (midS D x p true) r :=
  h.put_bad hv x.at_ false
theorem syn_wait (D : DkS) (k : Nat) : (synK D k).wait = D.wait := (fold_wait _ D).1
end
def dksy11.T11 : Bool × List (List Nat × List Nat) := (true, [([], []), ([0], [0]), ([1], [1]), ([2], [2]), ([], []), ([4], [4]), ([], []), ([6], [6]), ([7], [7]), ([8], [8]), ([], []), ([10], [10]), ([], []), ([12], [12]), ([3, 5, 0, 1, 2, 3, 4, 5, 9, 12, 13], [3, 5]), ([14, 13, 0, 1, 2, 3, 4, 5, 9, 12, 13], [13, 14]), ([9, 11, 0, 1, 2, 3, 4, 5, 6, 7, 8, 9, 10, 11, 12, 13, 14, 15], [9, 11]), ([16, 15, 0, 1, 2, 3, 4, 5, 6, 7, 8, 9, 10, 11, 12, 13, 14, 15], [16])])
def dksy11.B11 : List Nat := [0, 1, 3, 7, 0, 16, 0, 64, 192, 448, 0, 1024, 0, 4096, 13311, 29695, 65535, 131071]
theorem dksy11.tab11 : rtab .any (opsOf Try.f21 11) = dksy11.T11 := by kernel_rfl
theorem dksy11.bits11 : waitsOk dksy11.T11.2 dksy11.B11 = true := by kernel_rfl
section
variable {w : World} {base g : Nat} {S : Nat → Prop} {D : DkS} {r : Rws}
set_option maxRecDepth 100000 in
set_option maxHeartbeats 4000000 in
theorem sync_ok (h : IsD w base g S D r) (hd : D.down = false) (hs : stepE D = 0) (hba0 : base ≤ w.heap.size) (hwn0 : D.wait.length ≤ 1000000) : Calls Try.prog 21 #[.pointer (some ⟨g, 0, none⟩)] w fun e w' => e = .returned (.int .i64 0) ∧ ∃ r', IsD w' base g S { synK (stepD D) (stepD D).wait.length with wait := [] } r' ∧ Kept w w' S := by
  have c6 : w.cell? ⟨g, 6, none⟩ = some (.bool false) := (blk_cell h.blk 6).trans (by rw [hd]; rfl)
  have hS := Aside0.mk (step_ok h)
  have t1 : (stepE D != 0) = false := by simp [hs]
  have hba := Aside0.mk hba0
  clear h hd hs hba0
  go_enter Try.func21, Try.ntmps21
  go_wp2_with fail
  refine hS.out.mono ?_
  rintro e w1 ⟨rfl, hi1, hk1, hz1⟩
  obtain ⟨D1, hD1⟩ : ∃ d, d = stepD D := ⟨_, rfl⟩
  rw [← hD1] at hi1
  have hwn : D1.wait.length ≤ 1000000 := by rw [hD1, stepD_wait]; exact hwn0
  have HD1 := Aside0.mk hD1
  have HI := Aside0.mk hi1
  have HK := Aside0.mk hk1
  obtain ⟨Aw, cw, hvw, hlw⟩ := row_len hi1.wait
  have c4 : w1.cell? ⟨g, 4, none⟩ = some (.slice Aw D1.wait.length cw) := (blk_cell hi1.blk 4).trans (by rw [hvw]; rfl)
  have HV := Aside0.mk hvw
  clear hi1 hk1 hz1 hS c6 hD1 hlw hvw hwn0
  go_wp2
  go_loopw [24] (fun i wr => ∃ k : Nat, k ≤ D1.wait.length ∧ i = .int .i64 k ∧ Aside0 (IsD wr base g S (synK D1 k) r ∧ Kept w wr S)) (fun i _ => D1.wait.length - (intOf i).toNat)
  case atStart => exact ⟨0, Nat.zero_le _, rfl, ⟨HI.out, HK.out⟩⟩
  case round =>
    obtain ⟨k, hk, rfl, hR⟩ := hrel
    by_cases hlt : k < D1.wait.length
    · have hpos : 0 < D1.wait.length := by omega
      obtain ⟨gw, cw', hvw, _⟩ := Kd.R_form hR.out.1.wait (by rw [syn_wait]; exact hpos)
      have hvw2 := HV.out.symm.trans hvw
      injection hvw2 with e1 e2 e3
      obtain ⟨hc1, hc2⟩ := wt_cells hR.out.1 hvw k (by rw [syn_wait]; exact hlt)
      obtain ⟨x, hx⟩ : ∃ x, x = D1.wait[k] := ⟨_, rfl⟩
      have hx2 : (synK D1 k).wait[k]'(by rw [syn_wait]; exact hlt) = x := by rw [hx]; simp only [syn_wait]
      rw [hx2] at hc1 hc2
      have HX := Aside0.mk hx
      subst e1
      have hbw := Aside0.mk (hR.out.1.bound)
      unfold Sec.v at hc2
      clear hx hx2 e2 e3 hvw hpos
      go_upto_region 11 with fail
      obtain ⟨vn, vt, vs, vb, vw⟩ := r
      have hI := hR.out.1
      obtain ⟨D2, hD2⟩ : ∃ d, d = synK D1 k := ⟨_, rfl⟩
      have hmem : x ∈ D2.wait := by rw [hD2, syn_wait, HX.out]; exact List.getElem_mem _
      rw [← hD2] at hI
      have hat := hI.lw x hmem
      have hls := hI.ls
      have hlb := hI.lb
      obtain ⟨gs, cs, hvs, _⟩ := Kd.R_form hI.safe (by omega)
      obtain ⟨gb, cb, hvb, _⟩ := Kd.R_form hI.bad (by omega)
      obtain ⟨ns, hns⟩ : ∃ n : Nat, n = D2.safe.length := ⟨_, rfl⟩
      obtain ⟨nb, hnb⟩ : ∃ n : Nat, n = D2.bad.length := ⟨_, rfl⟩
      rw [← hns] at hvs
      rw [← hnb] at hvb
      replace hvs : vs = .slice (some ⟨gs, 0, none⟩) ns cs := hvs
      replace hvb : vb = .slice (some ⟨gb, 0, none⟩) nb cb := hvb
      subst hvs hvb
      have hqs := Aside0.mk (show x.at_ < (ns : Int) by omega)
      have hqb := Aside0.mk (show x.at_ < (nb : Int) by omega)
      have sgs := Aside0.mk (show S gs from (hI.safe.1 gs (by simp [Value.ownBlock])).1)
      have sgb := Aside0.mk (show S gb from (hI.bad.1 gb (by simp [Value.ownBlock])).1)
      have p1 : (0 ≤ x.at_) = True := eq_true hat.1
      have q1 : (x.at_ < (ns : Int)) = True := eq_true hqs.out
      have q2 : (x.at_ < (nb : Int)) = True := eq_true hqb.out
      replace hat := Aside0.mk hat.1
      replace hmem := Aside0.mk hmem
      obtain ⟨KB, hKB⟩ : ∃ n : Nat, n = wr.heap.size := ⟨_, rfl⟩
      have hbd := Aside0.mk (show ∀ k, S k → k < KB from fun k hk => by rw [hKB]; exact (hbw.out k hk).2)
      have BX := Aside0.mk (blk_new wr (.cells #[.int .i64 x.at_, .slice x.s.a x.s.b.length x.s.c] 87 (0, 0)))
      have I := Aside0.mk (hI.below (below_alloc (Below.refl _ _) (.cells #[.int .i64 x.at_, .slice x.s.a x.s.b.length x.s.c] 87 (0, 0))))
      have HK2 := Aside0.mk (hR.out.2.alloc (.cells #[.int .i64 x.at_, .slice x.s.a x.s.b.length x.s.c] 87 (0, 0)))
      rw [← hKB] at BX ⊢
      generalize wr.alloc _ = wa at BX I HK2 ⊢
      replace I : Aside0 (IsD wa base g S (midS D2 x false false) _) := I
      have HK0 := HK
      clear HK
      have HK := HK2
      have HD2 := Aside0.mk hD2
      clear hns hnb hls hlb hI hD2 HK2 hc1 hc2 hKB
      refine start_ (n := 18) (S := fun w' => True) (ds := []) #[false, false, false, false, false, false, false, false, false, false, false, false, false, false, false, false, false, false] (by kernel_rfl) rfl rfl trivial (fun hHeld => ?_)
      refine with_tabW dksy11.tab11 dksy11.bits11 (fun HT_ HW_ => ?_)
      have n0_ := Aside0.mk (I.out.below (below_drew (Below.refl _ _)))
      have n1_ := Aside0.mk (HK.out.drew)
      have n2_ := Aside0.mk (blk_drew BX.out)
      clear I HK BX
      generalize World.drew _ = wd at n0_ n1_ n2_ hHeld ⊢
      have I := n0_
      have HK := n1_
      have BX := n2_
      clear hHeld n0_ n1_ n2_
      refine inv_at [0, 1, 2, 3, 4, 5, 6, 7, 8, 9, 10, 11, 12, 13, 14, 15, 16, 17] (fun a0_ b a w' => a = putSel a0_ b [(0, 28, .pointer (some ⟨g, 0, none⟩)), (1, 29, .pointer (some ⟨g, 0, none⟩)), (2, 30, .pointer (some ⟨g, 2, none⟩)), (3, 31, .slice (some ⟨gs, 0, none⟩) ns cs), (4, 32, .pointer (some ⟨KB, 0, none⟩)), (5, 33, .int .i64 x.at_), (6, 34, .pointer (some ⟨g, 0, none⟩)), (7, 35, .pointer (some ⟨g, 0, none⟩)), (8, 36, .pointer (some ⟨g, 3, none⟩)), (9, 37, .slice (some ⟨gb, 0, none⟩) nb cb), (10, 38, .pointer (some ⟨KB, 0, none⟩)), (11, 39, .int .i64 x.at_), (12, 40, .pointer (some ⟨KB, 1, none⟩)), (13, 41, .slice x.s.a x.s.b.length x.s.c), (14, 42, .pointer (some ⟨gs, x.at_.toNat, none⟩)), (16, 43, .pointer (some ⟨gb, x.at_.toNat, none⟩))] ∧ (IsD w' base g S (midS D2 x (b 15) (b 17)) ⟨vn, vt, .slice (some ⟨gs, 0, none⟩) ns cs, .slice (some ⟨gb, 0, none⟩) nb cb, vw⟩) ∧ (Kept w w' S) ∧ (w'.heap[KB]? = some (.cells #[.int .i64 x.at_, .slice x.s.a x.s.b.length x.s.c] 87 (0, 0)))) HT_.out HW_.out (by kernel_rfl) (by kernel_rfl) ?_ ?_ ?_
      · exact ⟨by simp only [putSel, Bool.false_eq_true, if_false], I.out, HK.out, BX.out⟩
      · skip
        clear BX HK I
        refine steps_cons ?_ ?_
        · rintro b a w' ⟨ha, Q_I, Q_HK, Q_BX⟩ hb_ hon hoff
          refine ⟨_, rfl, fun K hK => ?_⟩
          have e0 : a.tmps[0]? = some (.pointer (some ⟨g, 0, none⟩)) := by rw [ha]; exact (putSel_off rfl).trans rfl
          replace ha := Aside0.mk ha
          have I := Aside0.mk Q_I
          have HK := Aside0.mk Q_HK
          have BX := Aside0.mk Q_BX
          refine value_ (w1 := w') (v := .pointer (some ⟨g, 0, none⟩)) (by rfl) rfl ?_ ?_
          · go_simp
            (try simp only [i64_w])
            try rfl
          refine hK.out _ _ ⟨(by rw [ha.out]; exact putSel_upk 0 hb_ rfl rfl rfl), Q_I, Q_HK, Q_BX⟩
        refine steps_cons ?_ ?_
        · rintro b a w' ⟨ha, Q_I, Q_HK, Q_BX⟩ hb_ hon hoff
          refine ⟨_, rfl, fun K hK => ?_⟩
          have e28 : a.tmps[28]? = some (.pointer (some ⟨g, 0, none⟩)) := by rw [ha]; exact putSel_on (e := (0, 28, .pointer (some ⟨g, 0, none⟩))) 0 rfl rfl (hon 0 (by kernel_rfl)) rfl
          replace ha := Aside0.mk ha
          have I := Aside0.mk Q_I
          have HK := Aside0.mk Q_HK
          have BX := Aside0.mk Q_BX
          refine value_ (w1 := w') (v := .pointer (some ⟨g, 0, none⟩)) (by rfl) rfl ?_ ?_
          · go_simp
            (try simp only [i64_w])
            try rfl
          refine hK.out _ _ ⟨(by rw [ha.out]; exact putSel_upk 1 hb_ rfl rfl rfl), Q_I, Q_HK, Q_BX⟩
        refine steps_cons ?_ ?_
        · rintro b a w' ⟨ha, Q_I, Q_HK, Q_BX⟩ hb_ hon hoff
          refine ⟨_, rfl, fun K hK => ?_⟩
          have e29 : a.tmps[29]? = some (.pointer (some ⟨g, 0, none⟩)) := by rw [ha]; exact putSel_on (e := (1, 29, .pointer (some ⟨g, 0, none⟩))) 1 rfl rfl (hon 1 (by kernel_rfl)) rfl
          replace ha := Aside0.mk ha
          have I := Aside0.mk Q_I
          have HK := Aside0.mk Q_HK
          have BX := Aside0.mk Q_BX
          refine value_ (w1 := w') (v := .pointer (some ⟨g, 2, none⟩)) (by rfl) rfl ?_ ?_
          · go_simp
            (try simp only [i64_w])
            try rfl
          refine hK.out _ _ ⟨(by rw [ha.out]; exact putSel_upk 2 hb_ rfl rfl rfl), Q_I, Q_HK, Q_BX⟩
        refine steps_cons ?_ ?_
        · rintro b a w' ⟨ha, Q_I, Q_HK, Q_BX⟩ hb_ hon hoff
          refine ⟨_, rfl, fun K hK => ?_⟩
          have e30 : a.tmps[30]? = some (.pointer (some ⟨g, 2, none⟩)) := by rw [ha]; exact putSel_on (e := (2, 30, .pointer (some ⟨g, 2, none⟩))) 2 rfl rfl (hon 2 (by kernel_rfl)) rfl
          replace ha := Aside0.mk ha
          have I := Aside0.mk Q_I
          have HK := Aside0.mk Q_HK
          have BX := Aside0.mk Q_BX
          have hc_ : w'.cell? ⟨g, 2, none⟩ = some (.slice (some ⟨gs, 0, none⟩) ns cs) := (blk_cell I.out.blk 2).trans rfl
          refine value_ (w1 := w') (v := .slice (some ⟨gs, 0, none⟩) ns cs) (by rfl) rfl ?_ ?_
          · go_simp
            (try simp only [i64_w])
            try rfl
          refine hK.out _ _ ⟨(by rw [ha.out]; exact putSel_upk 3 hb_ rfl rfl rfl), Q_I, Q_HK, Q_BX⟩
        refine steps_cons ?_ ?_
        · rintro b a w' ⟨ha, Q_I, Q_HK, Q_BX⟩ hb_ hon hoff
          refine ⟨_, rfl, fun K hK => ?_⟩
          have e5 : a.tmps[5]? = some (.pointer (some ⟨KB, 0, none⟩)) := by rw [ha]; exact (putSel_off rfl).trans rfl
          replace ha := Aside0.mk ha
          have I := Aside0.mk Q_I
          have HK := Aside0.mk Q_HK
          have BX := Aside0.mk Q_BX
          refine value_ (w1 := w') (v := .pointer (some ⟨KB, 0, none⟩)) (by rfl) rfl ?_ ?_
          · go_simp
            (try simp only [i64_w])
            try rfl
          refine hK.out _ _ ⟨(by rw [ha.out]; exact putSel_upk 4 hb_ rfl rfl rfl), Q_I, Q_HK, Q_BX⟩
        refine steps_cons ?_ ?_
        · rintro b a w' ⟨ha, Q_I, Q_HK, Q_BX⟩ hb_ hon hoff
          refine ⟨_, rfl, fun K hK => ?_⟩
          have e32 : a.tmps[32]? = some (.pointer (some ⟨KB, 0, none⟩)) := by rw [ha]; exact putSel_on (e := (4, 32, .pointer (some ⟨KB, 0, none⟩))) 4 rfl rfl (hon 4 (by kernel_rfl)) rfl
          replace ha := Aside0.mk ha
          have I := Aside0.mk Q_I
          have HK := Aside0.mk Q_HK
          have BX := Aside0.mk Q_BX
          have hc_ : w'.cell? ⟨KB, 0, none⟩ = some (.int .i64 x.at_) := (blk_cell BX.out 0).trans rfl
          refine value_ (w1 := w') (v := .int .i64 x.at_) (by rfl) rfl ?_ ?_
          · go_simp
            (try simp only [i64_w])
            try rfl
          refine hK.out _ _ ⟨(by rw [ha.out]; exact putSel_upk 5 hb_ rfl rfl rfl), Q_I, Q_HK, Q_BX⟩
        refine steps_cons ?_ ?_
        · rintro b a w' ⟨ha, Q_I, Q_HK, Q_BX⟩ hb_ hon hoff
          refine ⟨_, rfl, fun K hK => ?_⟩
          have e0 : a.tmps[0]? = some (.pointer (some ⟨g, 0, none⟩)) := by rw [ha]; exact (putSel_off rfl).trans rfl
          replace ha := Aside0.mk ha
          have I := Aside0.mk Q_I
          have HK := Aside0.mk Q_HK
          have BX := Aside0.mk Q_BX
          refine value_ (w1 := w') (v := .pointer (some ⟨g, 0, none⟩)) (by rfl) rfl ?_ ?_
          · go_simp
            (try simp only [i64_w])
            try rfl
          refine hK.out _ _ ⟨(by rw [ha.out]; exact putSel_upk 6 hb_ rfl rfl rfl), Q_I, Q_HK, Q_BX⟩
        refine steps_cons ?_ ?_
        · rintro b a w' ⟨ha, Q_I, Q_HK, Q_BX⟩ hb_ hon hoff
          refine ⟨_, rfl, fun K hK => ?_⟩
          have e34 : a.tmps[34]? = some (.pointer (some ⟨g, 0, none⟩)) := by rw [ha]; exact putSel_on (e := (6, 34, .pointer (some ⟨g, 0, none⟩))) 6 rfl rfl (hon 6 (by kernel_rfl)) rfl
          replace ha := Aside0.mk ha
          have I := Aside0.mk Q_I
          have HK := Aside0.mk Q_HK
          have BX := Aside0.mk Q_BX
          refine value_ (w1 := w') (v := .pointer (some ⟨g, 0, none⟩)) (by rfl) rfl ?_ ?_
          · go_simp
            (try simp only [i64_w])
            try rfl
          refine hK.out _ _ ⟨(by rw [ha.out]; exact putSel_upk 7 hb_ rfl rfl rfl), Q_I, Q_HK, Q_BX⟩
        refine steps_cons ?_ ?_
        · rintro b a w' ⟨ha, Q_I, Q_HK, Q_BX⟩ hb_ hon hoff
          refine ⟨_, rfl, fun K hK => ?_⟩
          have e35 : a.tmps[35]? = some (.pointer (some ⟨g, 0, none⟩)) := by rw [ha]; exact putSel_on (e := (7, 35, .pointer (some ⟨g, 0, none⟩))) 7 rfl rfl (hon 7 (by kernel_rfl)) rfl
          replace ha := Aside0.mk ha
          have I := Aside0.mk Q_I
          have HK := Aside0.mk Q_HK
          have BX := Aside0.mk Q_BX
          refine value_ (w1 := w') (v := .pointer (some ⟨g, 3, none⟩)) (by rfl) rfl ?_ ?_
          · go_simp
            (try simp only [i64_w])
            try rfl
          refine hK.out _ _ ⟨(by rw [ha.out]; exact putSel_upk 8 hb_ rfl rfl rfl), Q_I, Q_HK, Q_BX⟩
        refine steps_cons ?_ ?_
        · rintro b a w' ⟨ha, Q_I, Q_HK, Q_BX⟩ hb_ hon hoff
          refine ⟨_, rfl, fun K hK => ?_⟩
          have e36 : a.tmps[36]? = some (.pointer (some ⟨g, 3, none⟩)) := by rw [ha]; exact putSel_on (e := (8, 36, .pointer (some ⟨g, 3, none⟩))) 8 rfl rfl (hon 8 (by kernel_rfl)) rfl
          replace ha := Aside0.mk ha
          have I := Aside0.mk Q_I
          have HK := Aside0.mk Q_HK
          have BX := Aside0.mk Q_BX
          have hc_ : w'.cell? ⟨g, 3, none⟩ = some (.slice (some ⟨gb, 0, none⟩) nb cb) := (blk_cell I.out.blk 3).trans rfl
          refine value_ (w1 := w') (v := .slice (some ⟨gb, 0, none⟩) nb cb) (by rfl) rfl ?_ ?_
          · go_simp
            (try simp only [i64_w])
            try rfl
          refine hK.out _ _ ⟨(by rw [ha.out]; exact putSel_upk 9 hb_ rfl rfl rfl), Q_I, Q_HK, Q_BX⟩
        refine steps_cons ?_ ?_
        · rintro b a w' ⟨ha, Q_I, Q_HK, Q_BX⟩ hb_ hon hoff
          refine ⟨_, rfl, fun K hK => ?_⟩
          have e5 : a.tmps[5]? = some (.pointer (some ⟨KB, 0, none⟩)) := by rw [ha]; exact (putSel_off rfl).trans rfl
          replace ha := Aside0.mk ha
          have I := Aside0.mk Q_I
          have HK := Aside0.mk Q_HK
          have BX := Aside0.mk Q_BX
          refine value_ (w1 := w') (v := .pointer (some ⟨KB, 0, none⟩)) (by rfl) rfl ?_ ?_
          · go_simp
            (try simp only [i64_w])
            try rfl
          refine hK.out _ _ ⟨(by rw [ha.out]; exact putSel_upk 10 hb_ rfl rfl rfl), Q_I, Q_HK, Q_BX⟩
        refine steps_cons ?_ ?_
        · rintro b a w' ⟨ha, Q_I, Q_HK, Q_BX⟩ hb_ hon hoff
          refine ⟨_, rfl, fun K hK => ?_⟩
          have e38 : a.tmps[38]? = some (.pointer (some ⟨KB, 0, none⟩)) := by rw [ha]; exact putSel_on (e := (10, 38, .pointer (some ⟨KB, 0, none⟩))) 10 rfl rfl (hon 10 (by kernel_rfl)) rfl
          replace ha := Aside0.mk ha
          have I := Aside0.mk Q_I
          have HK := Aside0.mk Q_HK
          have BX := Aside0.mk Q_BX
          have hc_ : w'.cell? ⟨KB, 0, none⟩ = some (.int .i64 x.at_) := (blk_cell BX.out 0).trans rfl
          refine value_ (w1 := w') (v := .int .i64 x.at_) (by rfl) rfl ?_ ?_
          · go_simp
            (try simp only [i64_w])
            try rfl
          refine hK.out _ _ ⟨(by rw [ha.out]; exact putSel_upk 11 hb_ rfl rfl rfl), Q_I, Q_HK, Q_BX⟩
        refine steps_cons ?_ ?_
        · rintro b a w' ⟨ha, Q_I, Q_HK, Q_BX⟩ hb_ hon hoff
          refine ⟨_, rfl, fun K hK => ?_⟩
          have e5 : a.tmps[5]? = some (.pointer (some ⟨KB, 0, none⟩)) := by rw [ha]; exact (putSel_off rfl).trans rfl
          replace ha := Aside0.mk ha
          have I := Aside0.mk Q_I
          have HK := Aside0.mk Q_HK
          have BX := Aside0.mk Q_BX
          refine value_ (w1 := w') (v := .pointer (some ⟨KB, 1, none⟩)) (by rfl) rfl ?_ ?_
          · go_simp
            (try simp only [i64_w])
            try rfl
          refine hK.out _ _ ⟨(by rw [ha.out]; exact putSel_upk 12 hb_ rfl rfl rfl), Q_I, Q_HK, Q_BX⟩
        refine steps_cons ?_ ?_
        · rintro b a w' ⟨ha, Q_I, Q_HK, Q_BX⟩ hb_ hon hoff
          refine ⟨_, rfl, fun K hK => ?_⟩
          have e40 : a.tmps[40]? = some (.pointer (some ⟨KB, 1, none⟩)) := by rw [ha]; exact putSel_on (e := (12, 40, .pointer (some ⟨KB, 1, none⟩))) 12 rfl rfl (hon 12 (by kernel_rfl)) rfl
          replace ha := Aside0.mk ha
          have I := Aside0.mk Q_I
          have HK := Aside0.mk Q_HK
          have BX := Aside0.mk Q_BX
          have hc_ : w'.cell? ⟨KB, 1, none⟩ = some (.slice x.s.a x.s.b.length x.s.c) := (blk_cell BX.out 1).trans rfl
          refine value_ (w1 := w') (v := .slice x.s.a x.s.b.length x.s.c) (by rfl) rfl ?_ ?_
          · go_simp
            (try simp only [i64_w])
            try rfl
          refine hK.out _ _ ⟨(by rw [ha.out]; exact putSel_upk 13 hb_ rfl rfl rfl), Q_I, Q_HK, Q_BX⟩
        refine steps_cons ?_ ?_
        · rintro b a w' ⟨ha, Q_I, Q_HK, Q_BX⟩ hb_ hon hoff
          refine ⟨_, rfl, fun K hK => ?_⟩
          have e31 : a.tmps[31]? = some (.slice (some ⟨gs, 0, none⟩) ns cs) := by rw [ha]; exact putSel_on (e := (3, 31, .slice (some ⟨gs, 0, none⟩) ns cs)) 3 rfl rfl (hon 3 (by kernel_rfl)) rfl
          have e33 : a.tmps[33]? = some (.int .i64 x.at_) := by rw [ha]; exact putSel_on (e := (5, 33, .int .i64 x.at_)) 5 rfl rfl (hon 5 (by kernel_rfl)) rfl
          replace ha := Aside0.mk ha
          have I := Aside0.mk Q_I
          have HK := Aside0.mk Q_HK
          have BX := Aside0.mk Q_BX
          obtain ⟨hz1_, hz2_⟩ := Kd.R_celln (enc := Sec.v) (h1 := fun _ => rfl) Sec.nil (show kSec.R _ w' base _ (.slice (some ⟨gs, 0, none⟩) ns cs) _ from I.out.safe) x.at_ hat.out hqs.out
          refine value_ (w1 := w') (v := .pointer (some ⟨gs, x.at_.toNat, none⟩)) (by rfl) rfl ?_ ?_
          · go_simp
            (try simp only [i64_w])
            try rfl
          refine hK.out _ _ ⟨(by rw [ha.out]; exact putSel_upk 14 hb_ rfl rfl rfl), Q_I, Q_HK, Q_BX⟩
        refine steps_cons ?_ ?_
        · rintro b a w' ⟨ha, Q_I, Q_HK, Q_BX⟩ hb_ hon hoff
          refine ⟨_, rfl, fun K hK => ?_⟩
          have e42 : a.tmps[42]? = some (.pointer (some ⟨gs, x.at_.toNat, none⟩)) := by rw [ha]; exact putSel_on (e := (14, 42, .pointer (some ⟨gs, x.at_.toNat, none⟩))) 14 rfl rfl (hon 14 (by kernel_rfl)) rfl
          have e41 : a.tmps[41]? = some (.slice x.s.a x.s.b.length x.s.c) := by rw [ha]; exact putSel_on (e := (13, 41, .slice x.s.a x.s.b.length x.s.c)) 13 rfl rfl (hon 13 (by kernel_rfl)) rfl
          replace ha := Aside0.mk ha
          have I := Aside0.mk Q_I
          have HK := Aside0.mk Q_HK
          have BX := Aside0.mk Q_BX
          obtain ⟨hz1_, hz2_⟩ := Kd.R_celln (enc := Sec.v) (h1 := fun _ => rfl) Sec.nil (show kSec.R _ w' base _ (.slice (some ⟨gs, 0, none⟩) ns cs) _ from I.out.safe) x.at_ hat.out hqs.out
          refine skip_ (w1 := w'.setCell ⟨gs, x.at_.toNat, none⟩ (.slice x.s.a x.s.b.length x.s.c)) (by rfl) rfl ?_ ?_
          · unfold Sec.v at hz1_
            go_simp
            try rfl
          refine hK.out _ _ ⟨(by rw [ha.out]; exact putSel_none (v := undef) rfl), (mids_safe (by have h_ := I.out; rw [hb_] at h_; exact h_) rfl hmem.out), (HK.out.setCell (.inl sgs.out) _), (blk_far BX.out (p := ⟨gs, x.at_.toNat, none⟩) (fun h_ => absurd (hbd.out gs sgs.out) (by rw [h_]; exact Nat.lt_irrefl _)) _)⟩
        refine steps_cons ?_ ?_
        · rintro b a w' ⟨ha, Q_I, Q_HK, Q_BX⟩ hb_ hon hoff
          refine ⟨_, rfl, fun K hK => ?_⟩
          have e37 : a.tmps[37]? = some (.slice (some ⟨gb, 0, none⟩) nb cb) := by rw [ha]; exact putSel_on (e := (9, 37, .slice (some ⟨gb, 0, none⟩) nb cb)) 9 rfl rfl (hon 9 (by kernel_rfl)) rfl
          have e39 : a.tmps[39]? = some (.int .i64 x.at_) := by rw [ha]; exact putSel_on (e := (11, 39, .int .i64 x.at_)) 11 rfl rfl (hon 11 (by kernel_rfl)) rfl
          replace ha := Aside0.mk ha
          have I := Aside0.mk Q_I
          have HK := Aside0.mk Q_HK
          have BX := Aside0.mk Q_BX
          obtain ⟨hz1_, hz2_⟩ := Kd.R_celln (enc := Value.bool) (h1 := fun _ => rfl) false (show Kd.bool.R _ w' base _ (.slice (some ⟨gb, 0, none⟩) nb cb) _ from I.out.bad) x.at_ hat.out hqb.out
          refine value_ (w1 := w') (v := .pointer (some ⟨gb, x.at_.toNat, none⟩)) (by rfl) rfl ?_ ?_
          · go_simp
            (try simp only [i64_w])
            try rfl
          refine hK.out _ _ ⟨(by rw [ha.out]; exact putSel_upk 15 hb_ rfl rfl rfl), Q_I, Q_HK, Q_BX⟩
        refine steps_cons ?_ ?_
        · rintro b a w' ⟨ha, Q_I, Q_HK, Q_BX⟩ hb_ hon hoff
          refine ⟨_, rfl, fun K hK => ?_⟩
          have e43 : a.tmps[43]? = some (.pointer (some ⟨gb, x.at_.toNat, none⟩)) := by rw [ha]; exact putSel_on (e := (16, 43, .pointer (some ⟨gb, x.at_.toNat, none⟩))) 15 rfl rfl (hon 16 (by kernel_rfl)) rfl
          replace ha := Aside0.mk ha
          have I := Aside0.mk Q_I
          have HK := Aside0.mk Q_HK
          have BX := Aside0.mk Q_BX
          obtain ⟨hz1_, hz2_⟩ := Kd.R_celln (enc := Value.bool) (h1 := fun _ => rfl) false (show Kd.bool.R _ w' base _ (.slice (some ⟨gb, 0, none⟩) nb cb) _ from I.out.bad) x.at_ hat.out hqb.out
          refine skip_ (w1 := w'.setCell ⟨gb, x.at_.toNat, none⟩ (.bool false)) (by rfl) rfl ?_ ?_
          · go_simp
            try rfl
          refine hK.out _ _ ⟨(by rw [ha.out]; exact putSel_none (v := undef) rfl), (mids_bad (by have h_ := I.out; rw [hb_] at h_; exact h_) rfl), (HK.out.setCell (.inl sgb.out) _), (blk_far BX.out (p := ⟨gb, x.at_.toNat, none⟩) (fun h_ => absurd (hbd.out gb sgb.out) (by rw [h_]; exact Nat.lt_irrefl _)) _)⟩
        exact steps_nil
      rintro b a w' hall ⟨ha, Q_I, Q_HK, Q_BX⟩
      clear BX HK I
      have hb0_ := hall 0 (by kernel_rfl)
      have hb1_ := hall 1 (by kernel_rfl)
      have hb2_ := hall 2 (by kernel_rfl)
      have hb3_ := hall 3 (by kernel_rfl)
      have hb4_ := hall 4 (by kernel_rfl)
      have hb5_ := hall 5 (by kernel_rfl)
      have hb6_ := hall 6 (by kernel_rfl)
      have hb7_ := hall 7 (by kernel_rfl)
      have hb8_ := hall 8 (by kernel_rfl)
      have hb9_ := hall 9 (by kernel_rfl)
      have hb10_ := hall 10 (by kernel_rfl)
      have hb11_ := hall 11 (by kernel_rfl)
      have hb12_ := hall 12 (by kernel_rfl)
      have hb13_ := hall 13 (by kernel_rfl)
      have hb14_ := hall 14 (by kernel_rfl)
      have hb15_ := hall 15 (by kernel_rfl)
      have hb16_ := hall 16 (by kernel_rfl)
      have hb17_ := hall 17 (by kernel_rfl)
      subst ha
      simp only [putSel, hb0_, hb1_, hb2_, hb3_, hb4_, hb5_, hb6_, hb7_, hb8_, hb9_, hb10_, hb11_, hb12_, hb13_, hb14_, hb15_, hb16_, hb17_, if_true, Act.put, List.setIfInBounds_toArray, List.set_cons_zero, List.set_cons_succ]
      have I := Aside0.mk Q_I
      clear Q_I
      have HK := Aside0.mk Q_HK
      clear Q_HK
      have BX := Aside0.mk Q_BX
      clear Q_BX
      replace I := I.out
      rw [hb15_, hb17_] at I
      replace I := Aside0.mk I
      clear hall hb0_ hb1_ hb2_ hb3_ hb4_ hb5_ hb6_ hb7_ hb8_ hb9_ hb10_ hb11_ hb12_ hb13_ hb14_ hb15_ hb16_ hb17_
      have hfin := Aside0.mk (show IsD w' base g S (synK D1 (k + 1)) _ by rw [synK_succ D1 k hlt, ← HX.out, ← HD2.out]; exact I.out)
      clear I BX HD2 HX hmem hat hqs hqb sgs sgb hbd hbw
      go_wp2
      go_roundw
      case rel => exact ⟨k + 1, hlt, by go_num, ⟨hfin.out, HK.out⟩⟩
      case measure => simp [intOf]; omega
    · obtain rfl : k = D1.wait.length := by omega
      have hI := Aside0.mk hR.out.1
      have hKf := Aside0.mk hR.out.2
      have f4 : wr.frozen? ⟨g, 4, none⟩ = false := blk_frozen hI.out.blk 4
      have c4' : wr.cell? ⟨g, 4, none⟩ = some (.slice Aw D1.wait.length cw) := (blk_cell hI.out.blk 4).trans (by rw [HV.out]; rfl)
      clear hR c4 HK HI
      go_wp2
      go_ret
      refine ⟨rfl, { r with w := .slice none 0 0 }, ?_, hKf.out.setCell (.inl hI.out.sg) _⟩
      rw [← HD1.out]
      exact hI.out.clear_wait
end
end Go.Proofs.Ytihmfccpgahmaaa.Dk
