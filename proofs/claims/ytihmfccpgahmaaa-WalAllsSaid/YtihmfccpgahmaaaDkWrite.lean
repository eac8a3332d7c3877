/- disk.Write, walked. -/
import Derived.Test.YtihmfccpgahmaaaDkNew
import Derived.Test.YtihmfccpgahmaaaDkPut
namespace Go.Proofs.Ytihmfccpgahmaaa.Dk
open Go Go.RowKit Go.Proofs.YtihmfccpgahmaaaW.PrintWords Go.Proofs.YtihmfccpgahmaaaW.PrintMore Go.Proofs.YtihmfccpgahmaaaW.PrintLast
set_option linter.unusedVariables false
set_option linter.unusedSimpArgs false

/-- A disk in the midst of a write. -/
def mid (D : DkS) (i : Int) (s : Sec) (x y : Bool) : DkS := { D with now := cond x (D.now.set i.toNat s) D.now, torn := cond y (D.torn.set i.toNat false) D.torn }
section
variable {w W : World} {base g : Nat} {S : Nat → Prop} {D : DkS} {r : Rws} {i : Int} {s : Sec} {x y : Bool}
theorem mid_begin (h : IsD w base g S D r) : IsD w base g (fun k => S k ∨ Sec.nil.v.ownBlock = some k) (mid D i Sec.nil false false) r := by
  have := h.mono (S' := fun k => S k ∨ Sec.nil.v.ownBlock = some k) (fun k hk => .inl hk) (fun k hk => hk.elim (h.bound k) (fun h2 => by simp [Sec.nil, Sec.v, Value.ownBlock] at h2))
  exact this
theorem own_new (ho : Own W w.heap.size (fun _ => True) s) (hb : base ≤ w.heap.size) : Own W base (fun k => S k ∨ s.v.ownBlock = some k) s :=
  R_ok (Kd.R_lower ho hb) (fun k hk => .inr hk)
theorem mid_clone (h : IsD w base g (fun k => S k ∨ Sec.nil.v.ownBlock = some k) (mid D i Sec.nil false y) r) (hB : Below w.heap.size w W) (ho : Own W w.heap.size (fun _ => True) s) (hb : base ≤ w.heap.size) :
    IsD W base g (fun k => S k ∨ s.v.ownBlock = some k) (mid D i s false y) r := by
  have h2 := h.below hB
  exact h2.mono (fun k hk => hk.elim .inl (fun h3 => by simp [Sec.nil, Sec.v, Value.ownBlock] at h3)) (fun k hk => hk.elim (fun h3 => h2.bound k (.inl h3)) (fun h3 => ⟨Nat.le_trans hb (Kd.R_base ho k h3), Kd.R_lt ho k h3⟩))
theorem mid_now (h : IsD w base g S (mid D i s false y) r) {x n c : Nat} (hv : r.n = .slice (some ⟨x, 0, none⟩) n c) (ho : Own w base S s) (h5 : s.b.length ≤ 512) : IsD (w.setCell ⟨x, i.toNat, none⟩ s.v) base g S (mid D i s true y) r :=
  h.put_now hv i s ho h5
theorem mid_torn (h : IsD w base g S (mid D i s x false) r) {z n c : Nat} (hv : r.t = .slice (some ⟨z, 0, none⟩) n c) : IsD (w.setCell ⟨z, i.toNat, none⟩ (.bool false)) base g S (mid D i s x true) r :=
  h.put_torn hv i false
theorem own_now {D : DkS} {S' : Nat → Prop} (h : IsD w base g S D r) {x n c j : Nat} {u : Value} (hv : r.n = .slice (some ⟨x, 0, none⟩) n c) (ho : Own w base S' s) : Own (w.setCell ⟨x, j, none⟩ u) base S' s := by
  obtain ⟨cells, hx⟩ := Kd.R_typed h.now x (by rw [hv]; simp [Value.ownBlock])
  exact R_far' ho hx (by decide) _ _
theorem own_torn {D : DkS} {S' : Nat → Prop} (h : IsD w base g S D r) {x n c j : Nat} {u : Value} (hv : r.t = .slice (some ⟨x, 0, none⟩) n c) (ho : Own w base S' s) : Own (w.setCell ⟨x, j, none⟩ u) base S' s := by
  obtain ⟨cells, hx⟩ := Kd.R_typed h.torn x (by rw [hv]; simp [Value.ownBlock])
  exact R_far' ho hx (by decide) _ _
end

theorem ask_zero' {D : DkS} {i : Int} (h : askF D i = 0) : 0 ≤ i ∧ i < D.now.length ∧ D.down = false := by
  unfold askF at h
  split at h
  · cases h
  · rename_i hn
    refine ⟨by omega, by omega, ?_⟩
    cases hd : D.down
    · rfl
    · rw [if_pos hd] at h; cases h

theorem rd_set {α : Type} (d : α) (l : List α) (x : α) {i : Int} (h0 : 0 ≤ i) (h1 : i < l.length) : rdOf d (l.set i.toNat x) i = x := by
  unfold rdOf
  have h : i.toNat < l.length := by omega
  simp [List.getD_eq_getElem?_getD, List.getElem?_set_self h]

theorem append_wait {W0 w1 : World} {base g : Nat} {S2 S3 : Nat → Prop} {D2 : DkS} {r : Rws} {V1 : Value} (h : IsD W0 base g S2 D2 r) (x : Wt) (hs : Own W0 base S2 x.s) (h5 : x.s.b.length ≤ 512) (hlw : 0 ≤ x.at_ ∧ x.at_ < D2.now.length)
    (hR : kWt.R 87 w1 base (fun k => S2 k ∨ W0.heap.size ≤ k) V1 (D2.wait ++ [x])) (hg : W0.grownBy w1 r.w.ownBlock) (h23 : ∀ k, S2 k → S3 k) (hnew : ∀ k, W0.heap.size ≤ k → k < w1.heap.size → S3 k) (hb3 : ∀ k, S3 k → base ≤ k ∧ k < w1.heap.size) :
    w1.heap[g]? = some (.cells #[r.n, r.t, r.s, r.b, r.w, .int .i64 D2.fuse, .bool D2.down, .int .i64 D2.work] 83 (0, 0)) ∧ IsD (w1.setCell ⟨g, 4, none⟩ V1) base g S3 { D2 with wait := D2.wait ++ [x] } { r with w := V1 } := by
  have hb := blk_grown h.blk hg (Kd.R_ne h.wait h.blk (by decide))
  have ty := Kd.R_typed h.wait
  have hR3 : kWt.R 87 w1 base S3 V1 (D2.wait ++ [x]) := Kd.R_mono (Kd.R_bound hR) (fun k hk => hk.1.elim (h23 k) (fun h2 => hnew k h2 hk.2.2.1))
  have own : ∀ s, Own W0 base S2 s → Own (w1.setCell ⟨g, 4, none⟩ V1) base S3 s := fun s hs => R_far' (Kd.R_mono (Kd.R_over' hs ty (by decide) hg) h23) hb (by decide) _ _
  exact ⟨hb, {
    blk := blk_put hb 4 V1 rfl
    bound := fun k hk => ⟨(hb3 k hk).1, by rw [show (w1.setCell ⟨g, 4, none⟩ V1).heap.size = w1.heap.size by simp [World.setCell]]; exact (hb3 k hk).2⟩
    sg := h23 g h.sg
    now := R_far' (Kd.R_mono (Kd.R_over' h.now ty (by decide) hg) (fun k hk => ⟨h23 k hk.1, hk.2⟩)) hb (by decide) _ _
    safe := R_far' (Kd.R_mono (Kd.R_over' h.safe ty (by decide) hg) (fun k hk => ⟨h23 k hk.1, hk.2⟩)) hb (by decide) _ _
    torn := R_far' (Kd.R_mono (Kd.R_over' h.torn ty (by decide) hg) (fun k hk => ⟨h23 k hk.1, hk.2⟩)) hb (by decide) _ _
    bad := R_far' (Kd.R_mono (Kd.R_over' h.bad ty (by decide) hg) (fun k hk => ⟨h23 k hk.1, hk.2⟩)) hb (by decide) _ _
    wait := R_far' hR3 hb (by decide) _ _
    onow := fun s hs => own s (h.onow s hs)
    osafe := fun s hs => own s (h.osafe s hs)
    owait := fun z hz => (List.mem_append.1 hz).elim (fun h2 => own _ (h.owait z h2)) (fun h2 => by rw [List.mem_singleton.1 h2]; exact own _ hs)
    fnow := h.fnow
    fsafe := h.fsafe
    fwait := fun z hz => (List.mem_append.1 hz).elim (h.fwait z) (fun h2 => by rw [List.mem_singleton.1 h2]; exact h5)
    lt := h.lt
    ls := h.ls
    lb := h.lb
    lw := fun z hz => (List.mem_append.1 hz).elim (h.lw z) (fun h2 => by rw [List.mem_singleton.1 h2]; exact hlw)
    ln := h.ln
    lf := h.lf }⟩

theorem infoW : (Try.prog.info? 87).map (fun i => (i.zero, i.size, i.bytes)) = some (some (.agg #[.int .i64 0, .slice none 0 0]), 2, 32) := by kernel_rfl

def dkwr7.T7 : Bool × List (List Nat × List Nat) := (true, [([], []), ([0], [0]), ([1], [1]), ([2], [2]), ([], []), ([], []), ([5], [5]), ([6], [6]), ([7], [7]), ([], []), ([], []), ([10], [10]), ([3, 4, 0, 1, 2, 3, 4, 8, 10, 11], [3, 4]), ([12, 11, 11, 0, 1, 2, 3, 4, 8, 10, 11], [11, 12]), ([8, 9, 0, 1, 2, 3, 4, 5, 6, 7, 8, 9, 10, 11, 12, 13], [8, 9]), ([14, 13, 0, 1, 2, 3, 4, 5, 6, 7, 8, 9, 10, 11, 12, 13], [14])])
def dkwr7.B7 : List Nat := [0, 1, 3, 7, 0, 0, 32, 96, 224, 0, 0, 1024, 3583, 7679, 16383, 32767]
theorem dkwr7.tab7 : rtab .any (opsOf Try.f20 7) = dkwr7.T7 := by kernel_rfl
theorem dkwr7.bits7 : waitsOk dkwr7.T7.2 dkwr7.B7 = true := by kernel_rfl
def dkwr8.T8 : Bool × List (List Nat × List Nat) := (true, [([], []), ([], []), ([1], [1]), ([2], [2]), ([3], [3]), ([], []), ([], []), ([6], [6]), ([7], [7]), ([8], [8]), ([], []), ([9, 10], [9, 10]), ([11], [11]), ([5, 12], [5, 12]), ([13], [13]), ([4, 14], [4, 14]), ([0, 0, 1, 2, 3, 4, 5, 6, 7, 8, 9, 10, 11, 12, 13, 14, 15], [0]), ([16, 0, 1, 2, 3, 4, 5, 6, 7, 8, 9, 10, 11, 12, 13, 14, 15], [16]), ([17, 15, 15, 0, 1, 2, 3, 4, 5, 6, 7, 8, 9, 10, 11, 12, 13, 14, 15], [15, 17])])
def dkwr8.B8 : List Nat := [0, 0, 2, 6, 14, 0, 0, 64, 192, 448, 0, 1984, 4032, 8160, 16352, 32766, 65535, 131071, 262143]
theorem dkwr8.tab8 : rtab .any (opsOf Try.f20 8) = dkwr8.T8 := by kernel_rfl
theorem dkwr8.bits8 : waitsOk dkwr8.T8.2 dkwr8.B8 = true := by kernel_rfl

section
variable {w : World} {base g : Nat} {S : Nat → Prop} {D : DkS} {r : Rws}
/-- What a write tells, and what it leaves. -/
def wrE (D : DkS) (i : Int) (n : Nat) : Int := if askF D i = 1 ∨ 512 < n then 1 else if askF D i = 0 then stepE D else askF D i
def wrD (D : DkS) (i : Int) (s : Sec) : DkS := { mid (stepD D) i s true true with wait := D.wait ++ [⟨i, s⟩] }

theorem stepD_now (D : DkS) : (stepD D).now = D.now := by unfold stepD; split <;> (try split) <;> rfl
theorem stepD_wait (D : DkS) : (stepD D).wait = D.wait := by unfold stepD; split <;> (try split) <;> rfl

set_option maxRecDepth 100000 in
set_option maxHeartbeats 4000000 in
theorem write_ok (h : IsD w base g S D r) (i : Int) (A : Option Addr) (c : Nat) (l : List Int) (hC0 : ∀ W', Kept w W' S → Kd.C (Kd.int .u8) W' A l.length l) (hc0 : l.length ≤ c) (hl0 : l.length ≤ 512) (hA0 : askF D i = 0) (hba0 : base ≤ w.heap.size) (hw0 : D.wait.length < 1000000) :
    Calls Try.prog 20 #[.pointer (some ⟨g, 0, none⟩), .int .i64 i, .slice A l.length c] w fun e w' => e = .returned (.int .i64 (stepE D)) ∧ ∃ s r', s.b = l ∧ IsD w' base g (fun k => S k ∨ (w.heap.size ≤ k ∧ k < w'.heap.size)) (wrD D i s) r' ∧ Kept w w' S := by
  have hI := Aside0.mk h
  have hL := Aside0.mk (ask_ok h i)
  have hC := Aside0.mk hC0
  have hc := Aside0.mk hc0
  have hl := Aside0.mk hl0
  have hba := Aside0.mk hba0
  have hw := Aside0.mk hw0
  have hA := Aside0.mk hA0
  have t1 : (askF D i == 1) = false := by rw [hA0]; rfl
  have t2 : (askF D i != 0) = false := by rw [hA0]; rfl
  have t3 : decide (512 < l.length) = false := decide_eq_false (by omega)
  have t4 : decide ((512 : Int) < (l.length : Int)) = false := decide_eq_false (by omega)
  have hS := Aside0.mk (step_ok h)
  clear h hC0 hc0 hl0 hba0 hw0 hA0
  go_enter Try.func20, Try.ntmps20
  go_wp2_with fail
  refine hL.out.mono ?_
  rintro e w' ⟨rfl, hw'⟩
  replace hw' := hw'.symm
  subst hw'
  go_wp2_with fail
  refine hS.out.mono ?_
  rintro e w1 ⟨rfl, hi1, hk1, hz1⟩
  have I0 := Aside0.mk hi1
  have HK := Aside0.mk hk1
  clear hi1 hk1 hz1 hS hL t1 t2 t3 t4
  obtain ⟨h0, h1, _⟩ := ask_zero' hA.out
  have hlt := I0.out.lt
  have hnow := stepD_now D
  obtain ⟨gn, cn, hvn, _⟩ := Kd.R_form I0.out.now (by rw [hnow]; omega)
  obtain ⟨gt, ct, hvt, _⟩ := Kd.R_form I0.out.torn (by rw [hlt, hnow]; omega)
  have hp_ := Aside0.mk h0
  obtain ⟨vn, vt, vs, vb, vw⟩ := r
  obtain ⟨nn, hnn⟩ : ∃ n : Nat, n = (stepD D).now.length := ⟨_, rfl⟩
  obtain ⟨nt, hnt⟩ : ∃ n : Nat, n = (stepD D).torn.length := ⟨_, rfl⟩
  rw [← hnn] at hvn
  rw [← hnt] at hvt
  have hvn' : vn = .slice (some ⟨gn, 0, none⟩) nn cn := hvn
  have hvt' : vt = .slice (some ⟨gt, 0, none⟩) nt ct := hvt
  subst hvn' hvt'
  have hqn := Aside0.mk (show i < (nn : Int) by rw [hnn, hnow]; exact h1)
  have hqt := Aside0.mk (show i < (nt : Int) by rw [hnt, hlt, hnow]; exact h1)
  have p1 : (0 ≤ i) = True := eq_true h0
  have q1 : (i < (nn : Int)) = True := eq_true hqn.out
  have q2 : (i < (nt : Int)) = True := eq_true hqt.out
  have sgn := Aside0.mk (show S gn from (I0.out.now.1 gn (by simp [Value.ownBlock])).1)
  have sgt := Aside0.mk (show S gt from (I0.out.torn.1 gt (by simp [Value.ownBlock])).1)
  have HD := Aside0.mk (stepD_wait D)
  have hlen := Aside0.mk hnn.symm
  clear hvn hvt hnn hnt h0 h1 hlt hnow
  obtain ⟨D1, hD1⟩ : ∃ d, d = stepD D := ⟨_, rfl⟩
  have I := I0.out
  rw [← hD1] at I
  replace I := Aside0.mk I
  replace hlen := Aside0.mk hlen.out
  rw [← hD1] at hlen
  have HD1 := Aside0.mk hD1
  clear hD1 I0
  go_upto_region 7 with fail
  refine start_ (n := 16) (S := fun w' => True) (ds := []) #[false, false, false, false, false, false, false, false, false, false, false, false, false, false, false, false] (by kernel_rfl) rfl rfl trivial (fun hHeld => ?_)
  refine with_tabW dkwr7.tab7 dkwr7.bits7 (fun HT_ HW_ => ?_)
  have n0_ := Aside0.mk (I.out.below (below_drew (Below.refl _ _)))
  have n1_ := Aside0.mk (HK.out.drew)
  clear I HK
  generalize w1.drew = wd at n0_ n1_ hHeld ⊢
  have I := n0_
  have HK := n1_
  have NB : True := trivial
  have E0 : True := trivial
  clear hHeld n0_ n1_
  refine inv_at [0, 1, 2, 3, 4, 5, 6, 7, 8, 9, 10, 11, 12, 13, 14, 15] (fun a0_ b a w' => ∃ (sw : Sec) (m11_ : Value), a = putSel a0_ b [(0, 26, .pointer (some ⟨g, 0, none⟩)), (1, 27, .pointer (some ⟨g, 0, none⟩)), (2, 28, .pointer (some ⟨g, 0, none⟩)), (3, 29, .slice (some ⟨gn, 0, none⟩) nn cn), (4, 30, .int .i64 i), (5, 31, .pointer (some ⟨g, 0, none⟩)), (6, 32, .pointer (some ⟨g, 0, none⟩)), (7, 33, .pointer (some ⟨g, 1, none⟩)), (8, 34, .slice (some ⟨gt, 0, none⟩) nt ct), (9, 35, .int .i64 i), (10, 36, .slice A l.length c), (11, 37, m11_), (12, 38, .pointer (some ⟨gn, i.toNat, none⟩)), (14, 39, .pointer (some ⟨gt, i.toNat, none⟩))] ∧ (IsD w' base g (fun k => S k ∨ sw.v.ownBlock = some k) (mid D1 i sw (b 13) (b 15)) ⟨.slice (some ⟨gn, 0, none⟩) nn cn, .slice (some ⟨gt, 0, none⟩) nt ct, vs, vb, vw⟩) ∧ (Kept w w' S) ∧ (∀ k, sw.v.ownBlock = some k → w.heap.size ≤ k) ∧ (b 11 = false → sw = Sec.nil) ∧ (b 11 = true → sw.b = l) ∧ (b 11 = true → Own w' base (fun k => S k ∨ sw.v.ownBlock = some k) sw) ∧ (b 11 = true → (m11_ : Value) = sw.v)) HT_.out HW_.out (by kernel_rfl) (by kernel_rfl) ?_ ?_ ?_
  · exact ⟨Sec.nil, .bool false, by simp only [putSel, Bool.false_eq_true, if_false], (mid_begin I.out), HK.out, (fun k hk => by simp [Sec.nil, Sec.v, Value.ownBlock] at hk), fun _ => rfl, fun h_ => absurd h_ (by decide), fun h_ => absurd h_ (by decide), fun h_ => absurd h_ (by decide)⟩
  · skip
    clear E0 HK I NB
    refine steps_cons ?_ ?_
    · rintro b a w' ⟨sw, m11_, ha, Q_I, Q_HK, Q_NB, Q_E0, Q_ES, Q_OW, Q_X11_⟩ hb_ hon hoff
      refine ⟨_, rfl, fun K hK => ?_⟩
      have e0 : a.tmps[0]? = some (.pointer (some ⟨g, 0, none⟩)) := by rw [ha]; exact (putSel_off rfl).trans rfl
      replace ha := Aside0.mk ha
      have I := Aside0.mk Q_I
      have HK := Aside0.mk Q_HK
      have NB := Aside0.mk Q_NB
      refine value_ (w1 := w') (v := .pointer (some ⟨g, 0, none⟩)) (by rfl) rfl ?_ ?_
      · go_simp
        (try simp only [i64_w])
        try rfl
      refine hK.out _ _ ⟨sw, m11_, (by rw [ha.out]; exact putSel_upk 0 hb_ rfl rfl rfl), Q_I, Q_HK, Q_NB, Q_E0, Q_ES, Q_OW, Q_X11_⟩
    refine steps_cons ?_ ?_
    · rintro b a w' ⟨sw, m11_, ha, Q_I, Q_HK, Q_NB, Q_E0, Q_ES, Q_OW, Q_X11_⟩ hb_ hon hoff
      refine ⟨_, rfl, fun K hK => ?_⟩
      have e26 : a.tmps[26]? = some (.pointer (some ⟨g, 0, none⟩)) := by rw [ha]; exact putSel_on (e := (0, 26, .pointer (some ⟨g, 0, none⟩))) 0 rfl rfl (hon 0 (by kernel_rfl)) rfl
      replace ha := Aside0.mk ha
      have I := Aside0.mk Q_I
      have HK := Aside0.mk Q_HK
      have NB := Aside0.mk Q_NB
      refine value_ (w1 := w') (v := .pointer (some ⟨g, 0, none⟩)) (by rfl) rfl ?_ ?_
      · go_simp
        (try simp only [i64_w])
        try rfl
      refine hK.out _ _ ⟨sw, m11_, (by rw [ha.out]; exact putSel_upk 1 hb_ rfl rfl rfl), Q_I, Q_HK, Q_NB, Q_E0, Q_ES, Q_OW, Q_X11_⟩
    refine steps_cons ?_ ?_
    · rintro b a w' ⟨sw, m11_, ha, Q_I, Q_HK, Q_NB, Q_E0, Q_ES, Q_OW, Q_X11_⟩ hb_ hon hoff
      refine ⟨_, rfl, fun K hK => ?_⟩
      have e27 : a.tmps[27]? = some (.pointer (some ⟨g, 0, none⟩)) := by rw [ha]; exact putSel_on (e := (1, 27, .pointer (some ⟨g, 0, none⟩))) 1 rfl rfl (hon 1 (by kernel_rfl)) rfl
      replace ha := Aside0.mk ha
      have I := Aside0.mk Q_I
      have HK := Aside0.mk Q_HK
      have NB := Aside0.mk Q_NB
      refine value_ (w1 := w') (v := .pointer (some ⟨g, 0, none⟩)) (by rfl) rfl ?_ ?_
      · go_simp
        (try simp only [i64_w])
        try rfl
      refine hK.out _ _ ⟨sw, m11_, (by rw [ha.out]; exact putSel_upk 2 hb_ rfl rfl rfl), Q_I, Q_HK, Q_NB, Q_E0, Q_ES, Q_OW, Q_X11_⟩
    refine steps_cons ?_ ?_
    · rintro b a w' ⟨sw, m11_, ha, Q_I, Q_HK, Q_NB, Q_E0, Q_ES, Q_OW, Q_X11_⟩ hb_ hon hoff
      refine ⟨_, rfl, fun K hK => ?_⟩
      have e28 : a.tmps[28]? = some (.pointer (some ⟨g, 0, none⟩)) := by rw [ha]; exact putSel_on (e := (2, 28, .pointer (some ⟨g, 0, none⟩))) 2 rfl rfl (hon 2 (by kernel_rfl)) rfl
      replace ha := Aside0.mk ha
      have I := Aside0.mk Q_I
      have HK := Aside0.mk Q_HK
      have NB := Aside0.mk Q_NB
      have hc_ : w'.cell? ⟨g, 0, none⟩ = some (.slice (some ⟨gn, 0, none⟩) nn cn) := (blk_cell I.out.blk 0).trans rfl
      refine value_ (w1 := w') (v := .slice (some ⟨gn, 0, none⟩) nn cn) (by rfl) rfl ?_ ?_
      · go_simp
        (try simp only [i64_w])
        try rfl
      refine hK.out _ _ ⟨sw, m11_, (by rw [ha.out]; exact putSel_upk 3 hb_ rfl rfl rfl), Q_I, Q_HK, Q_NB, Q_E0, Q_ES, Q_OW, Q_X11_⟩
    refine steps_cons ?_ ?_
    · rintro b a w' ⟨sw, m11_, ha, Q_I, Q_HK, Q_NB, Q_E0, Q_ES, Q_OW, Q_X11_⟩ hb_ hon hoff
      refine ⟨_, rfl, fun K hK => ?_⟩
      have e1 : a.tmps[1]? = some (.int .i64 i) := by rw [ha]; exact (putSel_off rfl).trans rfl
      replace ha := Aside0.mk ha
      have I := Aside0.mk Q_I
      have HK := Aside0.mk Q_HK
      have NB := Aside0.mk Q_NB
      refine value_ (w1 := w') (v := .int .i64 i) (by rfl) rfl ?_ ?_
      · go_simp
        (try simp only [i64_w])
        try rfl
      refine hK.out _ _ ⟨sw, m11_, (by rw [ha.out]; exact putSel_upk 4 hb_ rfl rfl rfl), Q_I, Q_HK, Q_NB, Q_E0, Q_ES, Q_OW, Q_X11_⟩
    refine steps_cons ?_ ?_
    · rintro b a w' ⟨sw, m11_, ha, Q_I, Q_HK, Q_NB, Q_E0, Q_ES, Q_OW, Q_X11_⟩ hb_ hon hoff
      refine ⟨_, rfl, fun K hK => ?_⟩
      have e0 : a.tmps[0]? = some (.pointer (some ⟨g, 0, none⟩)) := by rw [ha]; exact (putSel_off rfl).trans rfl
      replace ha := Aside0.mk ha
      have I := Aside0.mk Q_I
      have HK := Aside0.mk Q_HK
      have NB := Aside0.mk Q_NB
      refine value_ (w1 := w') (v := .pointer (some ⟨g, 0, none⟩)) (by rfl) rfl ?_ ?_
      · go_simp
        (try simp only [i64_w])
        try rfl
      refine hK.out _ _ ⟨sw, m11_, (by rw [ha.out]; exact putSel_upk 5 hb_ rfl rfl rfl), Q_I, Q_HK, Q_NB, Q_E0, Q_ES, Q_OW, Q_X11_⟩
    refine steps_cons ?_ ?_
    · rintro b a w' ⟨sw, m11_, ha, Q_I, Q_HK, Q_NB, Q_E0, Q_ES, Q_OW, Q_X11_⟩ hb_ hon hoff
      refine ⟨_, rfl, fun K hK => ?_⟩
      have e31 : a.tmps[31]? = some (.pointer (some ⟨g, 0, none⟩)) := by rw [ha]; exact putSel_on (e := (5, 31, .pointer (some ⟨g, 0, none⟩))) 5 rfl rfl (hon 5 (by kernel_rfl)) rfl
      replace ha := Aside0.mk ha
      have I := Aside0.mk Q_I
      have HK := Aside0.mk Q_HK
      have NB := Aside0.mk Q_NB
      refine value_ (w1 := w') (v := .pointer (some ⟨g, 0, none⟩)) (by rfl) rfl ?_ ?_
      · go_simp
        (try simp only [i64_w])
        try rfl
      refine hK.out _ _ ⟨sw, m11_, (by rw [ha.out]; exact putSel_upk 6 hb_ rfl rfl rfl), Q_I, Q_HK, Q_NB, Q_E0, Q_ES, Q_OW, Q_X11_⟩
    refine steps_cons ?_ ?_
    · rintro b a w' ⟨sw, m11_, ha, Q_I, Q_HK, Q_NB, Q_E0, Q_ES, Q_OW, Q_X11_⟩ hb_ hon hoff
      refine ⟨_, rfl, fun K hK => ?_⟩
      have e32 : a.tmps[32]? = some (.pointer (some ⟨g, 0, none⟩)) := by rw [ha]; exact putSel_on (e := (6, 32, .pointer (some ⟨g, 0, none⟩))) 6 rfl rfl (hon 6 (by kernel_rfl)) rfl
      replace ha := Aside0.mk ha
      have I := Aside0.mk Q_I
      have HK := Aside0.mk Q_HK
      have NB := Aside0.mk Q_NB
      refine value_ (w1 := w') (v := .pointer (some ⟨g, 1, none⟩)) (by rfl) rfl ?_ ?_
      · go_simp
        (try simp only [i64_w])
        try rfl
      refine hK.out _ _ ⟨sw, m11_, (by rw [ha.out]; exact putSel_upk 7 hb_ rfl rfl rfl), Q_I, Q_HK, Q_NB, Q_E0, Q_ES, Q_OW, Q_X11_⟩
    refine steps_cons ?_ ?_
    · rintro b a w' ⟨sw, m11_, ha, Q_I, Q_HK, Q_NB, Q_E0, Q_ES, Q_OW, Q_X11_⟩ hb_ hon hoff
      refine ⟨_, rfl, fun K hK => ?_⟩
      have e33 : a.tmps[33]? = some (.pointer (some ⟨g, 1, none⟩)) := by rw [ha]; exact putSel_on (e := (7, 33, .pointer (some ⟨g, 1, none⟩))) 7 rfl rfl (hon 7 (by kernel_rfl)) rfl
      replace ha := Aside0.mk ha
      have I := Aside0.mk Q_I
      have HK := Aside0.mk Q_HK
      have NB := Aside0.mk Q_NB
      have hc_ : w'.cell? ⟨g, 1, none⟩ = some (.slice (some ⟨gt, 0, none⟩) nt ct) := (blk_cell I.out.blk 1).trans rfl
      refine value_ (w1 := w') (v := .slice (some ⟨gt, 0, none⟩) nt ct) (by rfl) rfl ?_ ?_
      · go_simp
        (try simp only [i64_w])
        try rfl
      refine hK.out _ _ ⟨sw, m11_, (by rw [ha.out]; exact putSel_upk 8 hb_ rfl rfl rfl), Q_I, Q_HK, Q_NB, Q_E0, Q_ES, Q_OW, Q_X11_⟩
    refine steps_cons ?_ ?_
    · rintro b a w' ⟨sw, m11_, ha, Q_I, Q_HK, Q_NB, Q_E0, Q_ES, Q_OW, Q_X11_⟩ hb_ hon hoff
      refine ⟨_, rfl, fun K hK => ?_⟩
      have e1 : a.tmps[1]? = some (.int .i64 i) := by rw [ha]; exact (putSel_off rfl).trans rfl
      replace ha := Aside0.mk ha
      have I := Aside0.mk Q_I
      have HK := Aside0.mk Q_HK
      have NB := Aside0.mk Q_NB
      refine value_ (w1 := w') (v := .int .i64 i) (by rfl) rfl ?_ ?_
      · go_simp
        (try simp only [i64_w])
        try rfl
      refine hK.out _ _ ⟨sw, m11_, (by rw [ha.out]; exact putSel_upk 9 hb_ rfl rfl rfl), Q_I, Q_HK, Q_NB, Q_E0, Q_ES, Q_OW, Q_X11_⟩
    refine steps_cons ?_ ?_
    · rintro b a w' ⟨sw, m11_, ha, Q_I, Q_HK, Q_NB, Q_E0, Q_ES, Q_OW, Q_X11_⟩ hb_ hon hoff
      refine ⟨_, rfl, fun K hK => ?_⟩
      have e2 : a.tmps[2]? = some (.slice A l.length c) := by rw [ha]; exact (putSel_off rfl).trans rfl
      replace ha := Aside0.mk ha
      have I := Aside0.mk Q_I
      have HK := Aside0.mk Q_HK
      have NB := Aside0.mk Q_NB
      have E0 := Aside0.mk (Q_E0 (hoff 11 (by kernel_rfl)))
      refine value_ (w1 := w') (v := .slice A l.length c) (by rfl) rfl ?_ ?_
      · go_simp
        (try simp only [i64_w])
        try rfl
      refine hK.out _ _ ⟨sw, m11_, (by rw [ha.out]; exact putSel_upk 10 hb_ rfl rfl rfl), Q_I, Q_HK, Q_NB, Q_E0, fun h0_ => absurd ((hoff 11 (by kernel_rfl)).symm.trans h0_) (by decide), fun h0_ => absurd ((hoff 11 (by kernel_rfl)).symm.trans h0_) (by decide), fun h0_ => absurd ((hoff 11 (by kernel_rfl)).symm.trans h0_) (by decide)⟩
    refine steps_cons ?_ ?_
    · rintro b a w' ⟨sw, m11_, ha, Q_I, Q_HK, Q_NB, Q_E0, Q_ES, Q_OW, Q_X11_⟩ hb_ hon hoff
      refine ⟨_, rfl, fun K hK => ?_⟩
      have e36 : a.tmps[36]? = some (.slice A l.length c) := by rw [ha]; exact putSel_on (e := (10, 36, .slice A l.length c)) 10 rfl rfl (hon 10 (by kernel_rfl)) rfl
      replace ha := Aside0.mk ha
      have I := Aside0.mk Q_I
      have HK := Aside0.mk Q_HK
      have NB := Aside0.mk Q_NB
      have E0 := Aside0.mk (Q_E0 hb_)
      refine goes_ Try.func52 (by kernel_rfl) rfl #[.slice A l.length c] (by rfl) rfl rfl (by first | (simp only [List.map_toArray, List.map_cons, List.map_nil, Act.eval, Array.getD_eq_getD_getElem?, Option.getD_some, e36]; done) | (simp only [List.map_toArray, List.map_cons, List.map_nil, Act.eval, Array.getD_eq_getD_getElem?, Option.getD_some, e36]; rfl)) ?_
      refine (clone_ok _ _ _ _ (hC.out _ HK.out) hc.out (by have := hl.out; omega)).mono ?_
      rintro e_ wn_ ⟨sn_, rfl, hs_, ho_, hB_⟩
      refine ⟨_, rfl, ?_⟩
      refine hK.out _ _ ⟨sn_, (sn_.v), (by rw [ha.out]; exact putSel_upk 11 hb_ rfl rfl rfl), (show IsD wn_ base g (fun k => S k ∨ sn_.v.ownBlock = some k) (mid D1 i sn_ (b 13) (b 15)) ⟨.slice (some ⟨gn, 0, none⟩) nn cn, .slice (some ⟨gt, 0, none⟩) nt ct, vs, vb, vw⟩ from by rw [hoff 13 (by kernel_rfl)]; exact mid_clone (by have h_ := I.out; rw [hoff 13 (by kernel_rfl), E0.out] at h_; exact h_) hB_ ho_ (Nat.le_trans hba.out HK.out.1)), (HK.out.below hB_), (fun k hk => Nat.le_trans HK.out.1 (Kd.R_base ho_ k hk)), fun h0_ => absurd ((up_self b 11).symm.trans h0_) (by decide), fun _ => hs_, fun _ => (own_new ho_ (Nat.le_trans hba.out HK.out.1)), fun _ => rfl⟩
    refine steps_cons ?_ ?_
    · rintro b a w' ⟨sw, m11_, ha, Q_I, Q_HK, Q_NB, Q_E0, Q_ES, Q_OW, Q_X11_⟩ hb_ hon hoff
      refine ⟨_, rfl, fun K hK => ?_⟩
      have e29 : a.tmps[29]? = some (.slice (some ⟨gn, 0, none⟩) nn cn) := by rw [ha]; exact putSel_on (e := (3, 29, .slice (some ⟨gn, 0, none⟩) nn cn)) 3 rfl rfl (hon 3 (by kernel_rfl)) rfl
      have e30 : a.tmps[30]? = some (.int .i64 i) := by rw [ha]; exact putSel_on (e := (4, 30, .int .i64 i)) 4 rfl rfl (hon 4 (by kernel_rfl)) rfl
      replace ha := Aside0.mk ha
      have I := Aside0.mk Q_I
      have HK := Aside0.mk Q_HK
      have NB := Aside0.mk Q_NB
      have ES := Aside0.mk (Q_ES (hon 11 (by kernel_rfl)))
      have OW := Aside0.mk (Q_OW (hon 11 (by kernel_rfl)))
      refine value_ (w1 := w') (v := .pointer (some ⟨gn, i.toNat, none⟩)) (by rfl) rfl ?_ ?_
      · go_simp
        (try simp only [i64_w])
        try rfl
      refine hK.out _ _ ⟨sw, m11_, (by rw [ha.out]; exact putSel_upk 12 hb_ rfl rfl rfl), Q_I, Q_HK, Q_NB, fun h0_ => absurd ((hon 11 (by kernel_rfl)).symm.trans h0_) (by decide), Q_ES, Q_OW, Q_X11_⟩
    refine steps_cons ?_ ?_
    · rintro b a w' ⟨sw, m11_, ha, Q_I, Q_HK, Q_NB, Q_E0, Q_ES, Q_OW, Q_X11_⟩ hb_ hon hoff
      refine ⟨_, rfl, fun K hK => ?_⟩
      have e38 : a.tmps[38]? = some (.pointer (some ⟨gn, i.toNat, none⟩)) := by rw [ha]; exact putSel_on (e := (12, 38, .pointer (some ⟨gn, i.toNat, none⟩))) 12 rfl rfl (hon 12 (by kernel_rfl)) rfl
      have e37 : a.tmps[37]? = some (m11_) := by rw [ha]; exact putSel_on (e := (11, 37, m11_)) 11 rfl rfl (hon 11 (by kernel_rfl)) rfl
      rw [Q_X11_ (hon 11 (by kernel_rfl))] at e37
      replace ha := Aside0.mk ha
      have I := Aside0.mk Q_I
      have HK := Aside0.mk Q_HK
      have NB := Aside0.mk Q_NB
      have ES := Aside0.mk (Q_ES (hon 11 (by kernel_rfl)))
      have OW := Aside0.mk (Q_OW (hon 11 (by kernel_rfl)))
      obtain ⟨hz1_, hz2_⟩ := Kd.R_celln (enc := Sec.v) (h1 := fun _ => rfl) Sec.nil (show kSec.R _ w' base _ (.slice (some ⟨gn, 0, none⟩) nn cn) _ from I.out.now) i hp_.out hqn.out
      refine skip_ (w1 := w'.setCell ⟨gn, i.toNat, none⟩ sw.v) (by rfl) rfl ?_ ?_
      · unfold Sec.v
        unfold Sec.v at e37
        go_simp
        try rfl
      refine hK.out _ _ ⟨sw, m11_, (by rw [ha.out]; exact putSel_none (v := undef) rfl), (mid_now (by have h_ := I.out; rw [hb_] at h_; exact h_) rfl OW.out (by rw [ES.out]; exact hl.out)), (HK.out.setCell (.inl sgn.out) _), Q_NB, fun h0_ => absurd ((hon 11 (by kernel_rfl)).symm.trans h0_) (by decide), Q_ES, fun _ => (own_now I.out rfl OW.out), Q_X11_⟩
    refine steps_cons ?_ ?_
    · rintro b a w' ⟨sw, m11_, ha, Q_I, Q_HK, Q_NB, Q_E0, Q_ES, Q_OW, Q_X11_⟩ hb_ hon hoff
      refine ⟨_, rfl, fun K hK => ?_⟩
      have e34 : a.tmps[34]? = some (.slice (some ⟨gt, 0, none⟩) nt ct) := by rw [ha]; exact putSel_on (e := (8, 34, .slice (some ⟨gt, 0, none⟩) nt ct)) 8 rfl rfl (hon 8 (by kernel_rfl)) rfl
      have e35 : a.tmps[35]? = some (.int .i64 i) := by rw [ha]; exact putSel_on (e := (9, 35, .int .i64 i)) 9 rfl rfl (hon 9 (by kernel_rfl)) rfl
      replace ha := Aside0.mk ha
      have I := Aside0.mk Q_I
      have HK := Aside0.mk Q_HK
      have NB := Aside0.mk Q_NB
      have ES := Aside0.mk (Q_ES (hon 11 (by kernel_rfl)))
      have OW := Aside0.mk (Q_OW (hon 11 (by kernel_rfl)))
      refine value_ (w1 := w') (v := .pointer (some ⟨gt, i.toNat, none⟩)) (by rfl) rfl ?_ ?_
      · go_simp
        (try simp only [i64_w])
        try rfl
      refine hK.out _ _ ⟨sw, m11_, (by rw [ha.out]; exact putSel_upk 13 hb_ rfl rfl rfl), Q_I, Q_HK, Q_NB, fun h0_ => absurd ((hon 11 (by kernel_rfl)).symm.trans h0_) (by decide), Q_ES, Q_OW, Q_X11_⟩
    refine steps_cons ?_ ?_
    · rintro b a w' ⟨sw, m11_, ha, Q_I, Q_HK, Q_NB, Q_E0, Q_ES, Q_OW, Q_X11_⟩ hb_ hon hoff
      refine ⟨_, rfl, fun K hK => ?_⟩
      have e39 : a.tmps[39]? = some (.pointer (some ⟨gt, i.toNat, none⟩)) := by rw [ha]; exact putSel_on (e := (14, 39, .pointer (some ⟨gt, i.toNat, none⟩))) 13 rfl rfl (hon 14 (by kernel_rfl)) rfl
      replace ha := Aside0.mk ha
      have I := Aside0.mk Q_I
      have HK := Aside0.mk Q_HK
      have NB := Aside0.mk Q_NB
      have ES := Aside0.mk (Q_ES (hon 11 (by kernel_rfl)))
      have OW := Aside0.mk (Q_OW (hon 11 (by kernel_rfl)))
      obtain ⟨hz1_, hz2_⟩ := Kd.R_celln (enc := Value.bool) (h1 := fun _ => rfl) false (show Kd.bool.R _ w' base _ (.slice (some ⟨gt, 0, none⟩) nt ct) _ from I.out.torn) i hp_.out hqt.out
      refine skip_ (w1 := w'.setCell ⟨gt, i.toNat, none⟩ (.bool false)) (by rfl) rfl ?_ ?_
      · go_simp
        try rfl
      refine hK.out _ _ ⟨sw, m11_, (by rw [ha.out]; exact putSel_none (v := undef) rfl), (mid_torn (by have h_ := I.out; rw [hb_] at h_; exact h_) rfl), (HK.out.setCell (.inl sgt.out) _), Q_NB, fun h0_ => absurd ((hon 11 (by kernel_rfl)).symm.trans h0_) (by decide), Q_ES, fun _ => (own_torn I.out rfl OW.out), Q_X11_⟩
    exact steps_nil
  rintro b a w' hall ⟨sw, m11_, ha, Q_I, Q_HK, Q_NB, Q_E0, Q_ES, Q_OW, Q_X11_⟩
  clear E0 HK I NB
  have hb0_ := hall 0 (by kernel_rfl)
  have hb1_ := hall 1 (by kernel_rfl)
  have hb2_ := hall 2 (by kernel_rfl)
  have hb3_ := hall 3 (by kernel_rfl)
  have hb4_ := hall 4 (by kernel_rfl)
  have hb5_ := hall 5 (by kernel_rfl)
  have hb6_ := hall 6 (by kernel_rfl)
  have hb7_ := hall 7 (by kernel_rfl)
  have hb8_ := hall 8 (by kernel_rfl)
  have hb9_ := hall 9 (by kernel_rfl)
  have hb10_ := hall 10 (by kernel_rfl)
  have hb11_ := hall 11 (by kernel_rfl)
  have hb12_ := hall 12 (by kernel_rfl)
  have hb13_ := hall 13 (by kernel_rfl)
  have hb14_ := hall 14 (by kernel_rfl)
  have hb15_ := hall 15 (by kernel_rfl)
  subst ha
  obtain rfl := Q_X11_ hb11_
  simp only [putSel, hb0_, hb1_, hb2_, hb3_, hb4_, hb5_, hb6_, hb7_, hb8_, hb9_, hb10_, hb11_, hb12_, hb13_, hb14_, hb15_, if_true, Act.put, List.setIfInBounds_toArray, List.set_cons_zero, List.set_cons_succ]
  have I := Aside0.mk Q_I
  clear Q_I
  have HK := Aside0.mk Q_HK
  clear Q_HK
  have NB := Aside0.mk Q_NB
  clear Q_NB
  clear Q_E0
  have ES := Aside0.mk (Q_ES hb11_)
  clear Q_ES
  have OW := Aside0.mk (Q_OW hb11_)
  clear Q_OW
  replace I := I.out
  rw [hb13_, hb15_] at I
  replace I := Aside0.mk I
  clear hall hb0_ hb1_ hb2_ hb3_ hb4_ hb5_ hb6_ hb7_ hb8_ hb9_ hb10_ hb11_ hb12_ hb13_ hb14_ hb15_
  have hsw := Aside0.mk (show rdOf Sec.nil (mid D1 i sw true true).now i = sw from rd_set _ _ _ hp_.out (by rw [hlen.out]; exact hqn.out))
  have NB2 := Aside0.mk NB.out
  have sg := Aside0.mk (show S g from hI.out.sg)
  have hvw := Aside0.mk (show ∀ k, vw.ownBlock = some k → S k from hI.out.wait.1)
  have hmem := Aside0.mk (show sw ∈ (mid D1 i sw true true).now from List.mem_set (by rw [hlen.out]; have := hqn.out; have := hp_.out; omega) sw)
  have hat2 := Aside0.mk (show 0 ≤ i ∧ i < (mid D1 i sw true true).now.length from ⟨hp_.out, by show i < ((D1.now.set i.toNat sw).length : Int); rw [List.length_set, hlen.out]; exact hqn.out⟩)
  have hwl := Aside0.mk (show ((mid D1 i sw true true).wait.length + 1) * 32 ≤ 140737488355328 by show (D1.wait.length + 1) * 32 ≤ _; rw [HD1.out, HD.out]; have := hw.out; omega)
  obtain ⟨D2, hD2⟩ : ∃ d, d = mid D1 i sw true true := ⟨_, rfl⟩
  obtain ⟨S2, hS2⟩ : ∃ d : Nat → Prop, d = (fun k => S k ∨ sw.v.ownBlock = some k) := ⟨_, rfl⟩
  rw [← hD2] at I hsw hmem hat2 hwl
  rw [← hS2] at I OW
  have HS2 := Aside0.mk hS2
  have HD2 := Aside0.mk hD2
  clear hS2 hD2
  go_upto_region 8 with fail
  refine start_ (n := 19) (S := fun w' => True) (ds := []) #[false, false, false, false, false, false, false, false, false, false, false, false, false, false, false, false, false, false, false] (by kernel_rfl) rfl rfl trivial (fun hHeld => ?_)
  refine with_tabW dkwr8.tab8 dkwr8.bits8 (fun HT_ HW_ => ?_)
  have n0_ := Aside0.mk (I.out.below (below_drew (Below.refl _ _)))
  have n1_ := Aside0.mk (HK.out.drew)
  clear I HK
  generalize w'.drew = wd at n0_ n1_ hHeld ⊢
  have I := n0_
  have HK := n1_
  clear hHeld n0_ n1_
  refine inv_at [0, 1, 2, 3, 4, 5, 6, 7, 8, 9, 10, 11, 12, 13, 14, 15, 16, 17, 18] (fun a0_ b a w' => ∃ (KB : Nat) (V1 : Value) (m14_ : Value), a = putSel a0_ b [(0, 40, .pointer (some ⟨g, 0, none⟩)), (1, 41, .pointer (some ⟨g, 0, none⟩)), (2, 42, .pointer (some ⟨g, 0, none⟩)), (3, 43, .pointer (some ⟨g, 4, none⟩)), (4, 44, vw), (5, 45, .int .i64 i), (6, 46, .pointer (some ⟨g, 0, none⟩)), (7, 47, .pointer (some ⟨g, 0, none⟩)), (8, 48, .pointer (some ⟨g, 0, none⟩)), (9, 49, .slice (some ⟨gn, 0, none⟩) nn cn), (10, 50, .int .i64 i), (11, 51, .pointer (some ⟨gn, i.toNat, none⟩)), (12, 52, .slice sw.a sw.b.length sw.c), (13, 53, .agg #[.int .i64 i, .slice sw.a sw.b.length sw.c]), (14, 54, m14_), (15, 55, V1), (16, 56, .pointer (some ⟨g, 0, none⟩)), (17, 57, .pointer (some ⟨g, 4, none⟩))] ∧ (Kept w w' S) ∧ (b 15 = false → IsD w' base g S2 D2 ⟨.slice (some ⟨gn, 0, none⟩) nn cn, .slice (some ⟨gt, 0, none⟩) nt ct, vs, vb, vw⟩) ∧ (b 14 = true → b 15 = false → ∃ W0, w' = W0.alloc (.cells #[.int .i64 i, .slice sw.a sw.b.length sw.c] 87) ∧ KB = W0.heap.size ∧ IsD W0 base g S2 D2 ⟨.slice (some ⟨gn, 0, none⟩) nn cn, .slice (some ⟨gt, 0, none⟩) nt ct, vs, vb, vw⟩ ∧ Kept w W0 S) ∧ (b 15 = true → b 18 = false → w'.heap[g]? = some (.cells #[.slice (some ⟨gn, 0, none⟩) nn cn, .slice (some ⟨gt, 0, none⟩) nt ct, vs, vb, vw, .int .i64 D2.fuse, .bool D2.down, .int .i64 D2.work] 83 (0, 0)) ∧ IsD (w'.setCell ⟨g, 4, none⟩ V1) base g (fun k => S2 k ∨ (w.heap.size ≤ k ∧ k < w'.heap.size)) { D2 with wait := D2.wait ++ [⟨i, sw⟩] } ⟨.slice (some ⟨gn, 0, none⟩) nn cn, .slice (some ⟨gt, 0, none⟩) nt ct, vs, vb, V1⟩) ∧ (b 18 = true → IsD w' base g (fun k => S2 k ∨ (w.heap.size ≤ k ∧ k < w'.heap.size)) { D2 with wait := D2.wait ++ [⟨i, sw⟩] } ⟨.slice (some ⟨gn, 0, none⟩) nn cn, .slice (some ⟨gt, 0, none⟩) nt ct, vs, vb, V1⟩) ∧ (b 14 = true → (m14_ : Value) = .slice (some ⟨KB, 0, none⟩) 1 1)) HT_.out HW_.out (by kernel_rfl) (by kernel_rfl) ?_ ?_ ?_
  · exact ⟨0, (.slice none 0 0), .bool false, by simp only [putSel, Bool.false_eq_true, if_false], HK.out, fun _ => I.out, fun h_ => absurd h_ (by decide), fun h_ => absurd h_ (by decide), fun h_ => absurd h_ (by decide), fun h_ => absurd h_ (by decide)⟩
  · skip
    clear HK I
    refine steps_cons ?_ ?_
    · rintro b a w' ⟨KB, V1, m14_, ha, Q_HK, Q_I, Q_AL, Q_F15, Q_F18, Q_X14_⟩ hb_ hon hoff
      refine ⟨_, rfl, fun K hK => ?_⟩
      have e0 : a.tmps[0]? = some (.pointer (some ⟨g, 0, none⟩)) := by rw [ha]; exact (putSel_off rfl).trans rfl
      replace ha := Aside0.mk ha
      have HK := Aside0.mk Q_HK
      refine value_ (w1 := w') (v := .pointer (some ⟨g, 0, none⟩)) (by rfl) rfl ?_ ?_
      · go_simp
        (try simp only [i64_w])
        try rfl
      refine hK.out _ _ ⟨KB, V1, m14_, (by rw [ha.out]; exact putSel_upk 0 hb_ rfl rfl rfl), Q_HK, Q_I, Q_AL, Q_F15, fun h0_ => absurd ((hoff 18 (by kernel_rfl)).symm.trans h0_) (by decide), Q_X14_⟩
    refine steps_cons ?_ ?_
    · rintro b a w' ⟨KB, V1, m14_, ha, Q_HK, Q_I, Q_AL, Q_F15, Q_F18, Q_X14_⟩ hb_ hon hoff
      refine ⟨_, rfl, fun K hK => ?_⟩
      have e0 : a.tmps[0]? = some (.pointer (some ⟨g, 0, none⟩)) := by rw [ha]; exact (putSel_off rfl).trans rfl
      replace ha := Aside0.mk ha
      have HK := Aside0.mk Q_HK
      have I := Aside0.mk (Q_I (hoff 15 (by kernel_rfl)))
      refine value_ (w1 := w') (v := .pointer (some ⟨g, 0, none⟩)) (by rfl) rfl ?_ ?_
      · go_simp
        (try simp only [i64_w])
        try rfl
      refine hK.out _ _ ⟨KB, V1, m14_, (by rw [ha.out]; exact putSel_upk 1 hb_ rfl rfl rfl), Q_HK, Q_I, Q_AL, fun h0_ _ => absurd ((hoff 15 (by kernel_rfl)).symm.trans h0_) (by decide), fun h0_ => absurd ((hoff 18 (by kernel_rfl)).symm.trans h0_) (by decide), Q_X14_⟩
    refine steps_cons ?_ ?_
    · rintro b a w' ⟨KB, V1, m14_, ha, Q_HK, Q_I, Q_AL, Q_F15, Q_F18, Q_X14_⟩ hb_ hon hoff
      refine ⟨_, rfl, fun K hK => ?_⟩
      have e41 : a.tmps[41]? = some (.pointer (some ⟨g, 0, none⟩)) := by rw [ha]; exact putSel_on (e := (1, 41, .pointer (some ⟨g, 0, none⟩))) 1 rfl rfl (hon 1 (by kernel_rfl)) rfl
      replace ha := Aside0.mk ha
      have HK := Aside0.mk Q_HK
      have I := Aside0.mk (Q_I (hoff 15 (by kernel_rfl)))
      refine value_ (w1 := w') (v := .pointer (some ⟨g, 0, none⟩)) (by rfl) rfl ?_ ?_
      · go_simp
        (try simp only [i64_w])
        try rfl
      refine hK.out _ _ ⟨KB, V1, m14_, (by rw [ha.out]; exact putSel_upk 2 hb_ rfl rfl rfl), Q_HK, Q_I, Q_AL, fun h0_ _ => absurd ((hoff 15 (by kernel_rfl)).symm.trans h0_) (by decide), fun h0_ => absurd ((hoff 18 (by kernel_rfl)).symm.trans h0_) (by decide), Q_X14_⟩
    refine steps_cons ?_ ?_
    · rintro b a w' ⟨KB, V1, m14_, ha, Q_HK, Q_I, Q_AL, Q_F15, Q_F18, Q_X14_⟩ hb_ hon hoff
      refine ⟨_, rfl, fun K hK => ?_⟩
      have e42 : a.tmps[42]? = some (.pointer (some ⟨g, 0, none⟩)) := by rw [ha]; exact putSel_on (e := (2, 42, .pointer (some ⟨g, 0, none⟩))) 2 rfl rfl (hon 2 (by kernel_rfl)) rfl
      replace ha := Aside0.mk ha
      have HK := Aside0.mk Q_HK
      have I := Aside0.mk (Q_I (hoff 15 (by kernel_rfl)))
      refine value_ (w1 := w') (v := .pointer (some ⟨g, 4, none⟩)) (by rfl) rfl ?_ ?_
      · go_simp
        (try simp only [i64_w])
        try rfl
      refine hK.out _ _ ⟨KB, V1, m14_, (by rw [ha.out]; exact putSel_upk 3 hb_ rfl rfl rfl), Q_HK, Q_I, Q_AL, fun h0_ _ => absurd ((hoff 15 (by kernel_rfl)).symm.trans h0_) (by decide), fun h0_ => absurd ((hoff 18 (by kernel_rfl)).symm.trans h0_) (by decide), Q_X14_⟩
    refine steps_cons ?_ ?_
    · rintro b a w' ⟨KB, V1, m14_, ha, Q_HK, Q_I, Q_AL, Q_F15, Q_F18, Q_X14_⟩ hb_ hon hoff
      refine ⟨_, rfl, fun K hK => ?_⟩
      have e43 : a.tmps[43]? = some (.pointer (some ⟨g, 4, none⟩)) := by rw [ha]; exact putSel_on (e := (3, 43, .pointer (some ⟨g, 4, none⟩))) 3 rfl rfl (hon 3 (by kernel_rfl)) rfl
      replace ha := Aside0.mk ha
      have HK := Aside0.mk Q_HK
      have I := Aside0.mk (Q_I (hoff 15 (by kernel_rfl)))
      have hc_ : w'.cell? ⟨g, 4, none⟩ = some vw := (blk_cell I.out.blk 4).trans rfl
      refine value_ (w1 := w') (v := vw) (by rfl) rfl ?_ ?_
      · go_simp
        (try simp only [i64_w])
        try rfl
      refine hK.out _ _ ⟨KB, V1, m14_, (by rw [ha.out]; exact putSel_upk 4 hb_ rfl rfl rfl), Q_HK, Q_I, Q_AL, fun h0_ _ => absurd ((hoff 15 (by kernel_rfl)).symm.trans h0_) (by decide), fun h0_ => absurd ((hoff 18 (by kernel_rfl)).symm.trans h0_) (by decide), Q_X14_⟩
    refine steps_cons ?_ ?_
    · rintro b a w' ⟨KB, V1, m14_, ha, Q_HK, Q_I, Q_AL, Q_F15, Q_F18, Q_X14_⟩ hb_ hon hoff
      refine ⟨_, rfl, fun K hK => ?_⟩
      have e1 : a.tmps[1]? = some (.int .i64 i) := by rw [ha]; exact (putSel_off rfl).trans rfl
      replace ha := Aside0.mk ha
      have HK := Aside0.mk Q_HK
      have I := Aside0.mk (Q_I (hoff 15 (by kernel_rfl)))
      refine value_ (w1 := w') (v := .int .i64 i) (by rfl) rfl ?_ ?_
      · go_simp
        (try simp only [i64_w])
        try rfl
      refine hK.out _ _ ⟨KB, V1, m14_, (by rw [ha.out]; exact putSel_upk 5 hb_ rfl rfl rfl), Q_HK, Q_I, fun h0_ _ => absurd ((hoff 14 (by kernel_rfl)).symm.trans h0_) (by decide), fun h0_ _ => absurd ((hoff 15 (by kernel_rfl)).symm.trans h0_) (by decide), fun h0_ => absurd ((hoff 18 (by kernel_rfl)).symm.trans h0_) (by decide), fun h0_ => absurd ((hoff 14 (by kernel_rfl)).symm.trans h0_) (by decide)⟩
    refine steps_cons ?_ ?_
    · rintro b a w' ⟨KB, V1, m14_, ha, Q_HK, Q_I, Q_AL, Q_F15, Q_F18, Q_X14_⟩ hb_ hon hoff
      refine ⟨_, rfl, fun K hK => ?_⟩
      have e0 : a.tmps[0]? = some (.pointer (some ⟨g, 0, none⟩)) := by rw [ha]; exact (putSel_off rfl).trans rfl
      replace ha := Aside0.mk ha
      have HK := Aside0.mk Q_HK
      have I := Aside0.mk (Q_I (hoff 15 (by kernel_rfl)))
      refine value_ (w1 := w') (v := .pointer (some ⟨g, 0, none⟩)) (by rfl) rfl ?_ ?_
      · go_simp
        (try simp only [i64_w])
        try rfl
      refine hK.out _ _ ⟨KB, V1, m14_, (by rw [ha.out]; exact putSel_upk 6 hb_ rfl rfl rfl), Q_HK, Q_I, fun h0_ _ => absurd ((hoff 14 (by kernel_rfl)).symm.trans h0_) (by decide), fun h0_ _ => absurd ((hoff 15 (by kernel_rfl)).symm.trans h0_) (by decide), fun h0_ => absurd ((hoff 18 (by kernel_rfl)).symm.trans h0_) (by decide), fun h0_ => absurd ((hoff 14 (by kernel_rfl)).symm.trans h0_) (by decide)⟩
    refine steps_cons ?_ ?_
    · rintro b a w' ⟨KB, V1, m14_, ha, Q_HK, Q_I, Q_AL, Q_F15, Q_F18, Q_X14_⟩ hb_ hon hoff
      refine ⟨_, rfl, fun K hK => ?_⟩
      have e46 : a.tmps[46]? = some (.pointer (some ⟨g, 0, none⟩)) := by rw [ha]; exact putSel_on (e := (6, 46, .pointer (some ⟨g, 0, none⟩))) 6 rfl rfl (hon 6 (by kernel_rfl)) rfl
      replace ha := Aside0.mk ha
      have HK := Aside0.mk Q_HK
      have I := Aside0.mk (Q_I (hoff 15 (by kernel_rfl)))
      refine value_ (w1 := w') (v := .pointer (some ⟨g, 0, none⟩)) (by rfl) rfl ?_ ?_
      · go_simp
        (try simp only [i64_w])
        try rfl
      refine hK.out _ _ ⟨KB, V1, m14_, (by rw [ha.out]; exact putSel_upk 7 hb_ rfl rfl rfl), Q_HK, Q_I, fun h0_ _ => absurd ((hoff 14 (by kernel_rfl)).symm.trans h0_) (by decide), fun h0_ _ => absurd ((hoff 15 (by kernel_rfl)).symm.trans h0_) (by decide), fun h0_ => absurd ((hoff 18 (by kernel_rfl)).symm.trans h0_) (by decide), fun h0_ => absurd ((hoff 14 (by kernel_rfl)).symm.trans h0_) (by decide)⟩
    refine steps_cons ?_ ?_
    · rintro b a w' ⟨KB, V1, m14_, ha, Q_HK, Q_I, Q_AL, Q_F15, Q_F18, Q_X14_⟩ hb_ hon hoff
      refine ⟨_, rfl, fun K hK => ?_⟩
      have e47 : a.tmps[47]? = some (.pointer (some ⟨g, 0, none⟩)) := by rw [ha]; exact putSel_on (e := (7, 47, .pointer (some ⟨g, 0, none⟩))) 7 rfl rfl (hon 7 (by kernel_rfl)) rfl
      replace ha := Aside0.mk ha
      have HK := Aside0.mk Q_HK
      have I := Aside0.mk (Q_I (hoff 15 (by kernel_rfl)))
      refine value_ (w1 := w') (v := .pointer (some ⟨g, 0, none⟩)) (by rfl) rfl ?_ ?_
      · go_simp
        (try simp only [i64_w])
        try rfl
      refine hK.out _ _ ⟨KB, V1, m14_, (by rw [ha.out]; exact putSel_upk 8 hb_ rfl rfl rfl), Q_HK, Q_I, fun h0_ _ => absurd ((hoff 14 (by kernel_rfl)).symm.trans h0_) (by decide), fun h0_ _ => absurd ((hoff 15 (by kernel_rfl)).symm.trans h0_) (by decide), fun h0_ => absurd ((hoff 18 (by kernel_rfl)).symm.trans h0_) (by decide), fun h0_ => absurd ((hoff 14 (by kernel_rfl)).symm.trans h0_) (by decide)⟩
    refine steps_cons ?_ ?_
    · rintro b a w' ⟨KB, V1, m14_, ha, Q_HK, Q_I, Q_AL, Q_F15, Q_F18, Q_X14_⟩ hb_ hon hoff
      refine ⟨_, rfl, fun K hK => ?_⟩
      have e48 : a.tmps[48]? = some (.pointer (some ⟨g, 0, none⟩)) := by rw [ha]; exact putSel_on (e := (8, 48, .pointer (some ⟨g, 0, none⟩))) 8 rfl rfl (hon 8 (by kernel_rfl)) rfl
      replace ha := Aside0.mk ha
      have HK := Aside0.mk Q_HK
      have I := Aside0.mk (Q_I (hoff 15 (by kernel_rfl)))
      have hc_ : w'.cell? ⟨g, 0, none⟩ = some (.slice (some ⟨gn, 0, none⟩) nn cn) := (blk_cell I.out.blk 0).trans rfl
      refine value_ (w1 := w') (v := .slice (some ⟨gn, 0, none⟩) nn cn) (by rfl) rfl ?_ ?_
      · go_simp
        (try simp only [i64_w])
        try rfl
      refine hK.out _ _ ⟨KB, V1, m14_, (by rw [ha.out]; exact putSel_upk 9 hb_ rfl rfl rfl), Q_HK, Q_I, fun h0_ _ => absurd ((hoff 14 (by kernel_rfl)).symm.trans h0_) (by decide), fun h0_ _ => absurd ((hoff 15 (by kernel_rfl)).symm.trans h0_) (by decide), fun h0_ => absurd ((hoff 18 (by kernel_rfl)).symm.trans h0_) (by decide), fun h0_ => absurd ((hoff 14 (by kernel_rfl)).symm.trans h0_) (by decide)⟩
    refine steps_cons ?_ ?_
    · rintro b a w' ⟨KB, V1, m14_, ha, Q_HK, Q_I, Q_AL, Q_F15, Q_F18, Q_X14_⟩ hb_ hon hoff
      refine ⟨_, rfl, fun K hK => ?_⟩
      have e1 : a.tmps[1]? = some (.int .i64 i) := by rw [ha]; exact (putSel_off rfl).trans rfl
      replace ha := Aside0.mk ha
      have HK := Aside0.mk Q_HK
      have I := Aside0.mk (Q_I (hoff 15 (by kernel_rfl)))
      refine value_ (w1 := w') (v := .int .i64 i) (by rfl) rfl ?_ ?_
      · go_simp
        (try simp only [i64_w])
        try rfl
      refine hK.out _ _ ⟨KB, V1, m14_, (by rw [ha.out]; exact putSel_upk 10 hb_ rfl rfl rfl), Q_HK, Q_I, fun h0_ _ => absurd ((hoff 14 (by kernel_rfl)).symm.trans h0_) (by decide), fun h0_ _ => absurd ((hoff 15 (by kernel_rfl)).symm.trans h0_) (by decide), fun h0_ => absurd ((hoff 18 (by kernel_rfl)).symm.trans h0_) (by decide), fun h0_ => absurd ((hoff 14 (by kernel_rfl)).symm.trans h0_) (by decide)⟩
    refine steps_cons ?_ ?_
    · rintro b a w' ⟨KB, V1, m14_, ha, Q_HK, Q_I, Q_AL, Q_F15, Q_F18, Q_X14_⟩ hb_ hon hoff
      refine ⟨_, rfl, fun K hK => ?_⟩
      have e49 : a.tmps[49]? = some (.slice (some ⟨gn, 0, none⟩) nn cn) := by rw [ha]; exact putSel_on (e := (9, 49, .slice (some ⟨gn, 0, none⟩) nn cn)) 9 rfl rfl (hon 9 (by kernel_rfl)) rfl
      have e50 : a.tmps[50]? = some (.int .i64 i) := by rw [ha]; exact putSel_on (e := (10, 50, .int .i64 i)) 10 rfl rfl (hon 10 (by kernel_rfl)) rfl
      replace ha := Aside0.mk ha
      have HK := Aside0.mk Q_HK
      have I := Aside0.mk (Q_I (hoff 15 (by kernel_rfl)))
      refine value_ (w1 := w') (v := .pointer (some ⟨gn, i.toNat, none⟩)) (by rfl) rfl ?_ ?_
      · go_simp
        (try simp only [i64_w])
        try rfl
      refine hK.out _ _ ⟨KB, V1, m14_, (by rw [ha.out]; exact putSel_upk 11 hb_ rfl rfl rfl), Q_HK, Q_I, fun h0_ _ => absurd ((hoff 14 (by kernel_rfl)).symm.trans h0_) (by decide), fun h0_ _ => absurd ((hoff 15 (by kernel_rfl)).symm.trans h0_) (by decide), fun h0_ => absurd ((hoff 18 (by kernel_rfl)).symm.trans h0_) (by decide), fun h0_ => absurd ((hoff 14 (by kernel_rfl)).symm.trans h0_) (by decide)⟩
    refine steps_cons ?_ ?_
    · rintro b a w' ⟨KB, V1, m14_, ha, Q_HK, Q_I, Q_AL, Q_F15, Q_F18, Q_X14_⟩ hb_ hon hoff
      refine ⟨_, rfl, fun K hK => ?_⟩
      have e51 : a.tmps[51]? = some (.pointer (some ⟨gn, i.toNat, none⟩)) := by rw [ha]; exact putSel_on (e := (11, 51, .pointer (some ⟨gn, i.toNat, none⟩))) 11 rfl rfl (hon 11 (by kernel_rfl)) rfl
      replace ha := Aside0.mk ha
      have HK := Aside0.mk Q_HK
      have I := Aside0.mk (Q_I (hoff 15 (by kernel_rfl)))
      obtain ⟨hz1_, hz2_⟩ := Kd.R_celln (enc := Sec.v) (h1 := fun _ => rfl) Sec.nil (show kSec.R _ w' base _ (.slice (some ⟨gn, 0, none⟩) nn cn) _ from I.out.now) i hp_.out hqn.out
      rw [hsw.out] at hz1_
      unfold Sec.v at hz1_
      refine value_ (w1 := w') (v := .slice sw.a sw.b.length sw.c) (by rfl) rfl ?_ ?_
      · go_simp
        (try simp only [i64_w])
        try rfl
      refine hK.out _ _ ⟨KB, V1, m14_, (by rw [ha.out]; exact putSel_upk 12 hb_ rfl rfl rfl), Q_HK, Q_I, fun h0_ _ => absurd ((hoff 14 (by kernel_rfl)).symm.trans h0_) (by decide), fun h0_ _ => absurd ((hoff 15 (by kernel_rfl)).symm.trans h0_) (by decide), fun h0_ => absurd ((hoff 18 (by kernel_rfl)).symm.trans h0_) (by decide), fun h0_ => absurd ((hoff 14 (by kernel_rfl)).symm.trans h0_) (by decide)⟩
    refine steps_cons ?_ ?_
    · rintro b a w' ⟨KB, V1, m14_, ha, Q_HK, Q_I, Q_AL, Q_F15, Q_F18, Q_X14_⟩ hb_ hon hoff
      refine ⟨_, rfl, fun K hK => ?_⟩
      have e45 : a.tmps[45]? = some (.int .i64 i) := by rw [ha]; exact putSel_on (e := (5, 45, .int .i64 i)) 5 rfl rfl (hon 5 (by kernel_rfl)) rfl
      have e52 : a.tmps[52]? = some (.slice sw.a sw.b.length sw.c) := by rw [ha]; exact putSel_on (e := (12, 52, .slice sw.a sw.b.length sw.c)) 12 rfl rfl (hon 12 (by kernel_rfl)) rfl
      replace ha := Aside0.mk ha
      have HK := Aside0.mk Q_HK
      have I := Aside0.mk (Q_I (hoff 15 (by kernel_rfl)))
      refine value_ (w1 := w') (v := .agg #[.int .i64 i, .slice sw.a sw.b.length sw.c]) (by rfl) rfl ?_ ?_
      · go_simp
        (try simp only [i64_w])
        try rfl
      refine hK.out _ _ ⟨KB, V1, m14_, (by rw [ha.out]; exact putSel_upk 13 hb_ rfl rfl rfl), Q_HK, Q_I, fun h0_ _ => absurd ((hoff 14 (by kernel_rfl)).symm.trans h0_) (by decide), fun h0_ _ => absurd ((hoff 15 (by kernel_rfl)).symm.trans h0_) (by decide), fun h0_ => absurd ((hoff 18 (by kernel_rfl)).symm.trans h0_) (by decide), fun h0_ => absurd ((hoff 14 (by kernel_rfl)).symm.trans h0_) (by decide)⟩
    refine steps_cons ?_ ?_
    · rintro b a w' ⟨KB, V1, m14_, ha, Q_HK, Q_I, Q_AL, Q_F15, Q_F18, Q_X14_⟩ hb_ hon hoff
      refine ⟨_, rfl, fun K hK => ?_⟩
      have e53 : a.tmps[53]? = some (.agg #[.int .i64 i, .slice sw.a sw.b.length sw.c]) := by rw [ha]; exact putSel_on (e := (13, 53, .agg #[.int .i64 i, .slice sw.a sw.b.length sw.c])) 13 rfl rfl (hon 13 (by kernel_rfl)) rfl
      replace ha := Aside0.mk ha
      have HK := Aside0.mk Q_HK
      have I := Aside0.mk (Q_I (hoff 15 (by kernel_rfl)))
      refine value_ (w1 := w'.alloc (.cells #[.int .i64 i, .slice sw.a sw.b.length sw.c] 87)) (v := .slice (some ⟨w'.heap.size, 0, none⟩) 1 1) (by rfl) rfl ?_ ?_
      · go_simp
        try rfl
      refine hK.out _ _ ⟨w'.heap.size, V1, (.slice (some ⟨w'.heap.size, 0, none⟩) 1 1), (by rw [ha.out]; exact putSel_upk 14 hb_ rfl rfl rfl), (HK.out.alloc _), fun _ => (I.out.below (below_alloc (Below.refl _ _) _)), fun _ _ => ⟨w', rfl, rfl, I.out, HK.out⟩, fun h0_ _ => absurd ((hoff 15 (by kernel_rfl)).symm.trans h0_) (by decide), fun h0_ => absurd ((hoff 18 (by kernel_rfl)).symm.trans h0_) (by decide), fun _ => rfl⟩
    refine steps_cons ?_ ?_
    · rintro b a w' ⟨KB, V1, m14_, ha, Q_HK, Q_I, Q_AL, Q_F15, Q_F18, Q_X14_⟩ hb_ hon hoff
      refine ⟨_, rfl, fun K hK => ?_⟩
      have e44 : a.tmps[44]? = some (vw) := by rw [ha]; exact putSel_on (e := (4, 44, vw)) 4 rfl rfl (hon 4 (by kernel_rfl)) rfl
      have e54 : a.tmps[54]? = some (m14_) := by rw [ha]; exact putSel_on (e := (14, 54, m14_)) 14 rfl rfl (hon 14 (by kernel_rfl)) rfl
      rw [Q_X14_ (hon 14 (by kernel_rfl))] at e54
      replace ha := Aside0.mk ha
      have HK := Aside0.mk Q_HK
      have I := Aside0.mk (Q_I hb_)
      have AL := Aside0.mk (Q_AL (hon 14 (by kernel_rfl)) hb_)
      obtain ⟨W0, hw0_, hk0_, hi0_, hkk_⟩ := AL.out
      subst hw0_ hk0_
      refine Kd.R_append_step kWt (w0 := W0) base (by rfl) (.tmp 44) (.tmp 54) 81 87 (.agg #[.int .i64 0, .slice none 0 0]) 32 rfl Try.underlying81 infoW rfl (by decide) (by omega) vw D2.wait ⟨i, sw⟩ [.int .i64 i, .slice sw.a sw.b.length sw.c] (fun k => S2 k ∨ W0.heap.size ≤ k) (fun _ => False) ?_ ?_ ⟨_, _, rfl, rfl, rfl⟩ (fun _ hk => hk.elim) (fun k hk => .inr hk) (Kd.R_mono hi0_.wait (fun _ hk => .inl hk)) (Below.refl _ _) (Nat.le_trans hba.out hkk_.1) ?_ ?_
      · simp only [Act.eval, Array.getD_eq_getD_getElem?, Option.getD_some, e44]
      · simp only [Act.eval, Array.getD_eq_getD_getElem?, Option.getD_some, e54]
      · have := hwl.out; omega
      intro v1_ w1_ hR_ hB_ hg_ hat_
      refine hK.out _ _ ⟨W0.heap.size, v1_, m14_, (by rw [ha.out]; exact putSel_upk 15 hb_ rfl rfl rfl), (hkk_.of_grown hg_ (fun k hk => .inl (hvw.out k hk))), fun h0_ => absurd ((up_self b 15).symm.trans h0_) (by decide), fun _ h1_ => absurd ((up_self b 15).symm.trans h1_) (by decide), fun _ _ => (append_wait hi0_ ⟨i, sw⟩ (hi0_.onow _ hmem.out) (hi0_.fnow _ hmem.out) hat2.out hR_ hg_ (fun k hk => .inl hk) (fun k hk1 hk2 => .inr ⟨Nat.le_trans hkk_.1 hk1, hk2⟩) (fun k hk => hk.elim (fun h2 => ⟨(hi0_.bound k h2).1, Nat.lt_of_lt_of_le (hi0_.bound k h2).2 hg_.size⟩) (fun h2 => ⟨Nat.le_trans hba.out h2.1, h2.2⟩))), fun h0_ => absurd ((hoff 18 (by kernel_rfl)).symm.trans h0_) (by decide), Q_X14_⟩
    refine steps_cons ?_ ?_
    · rintro b a w' ⟨KB, V1, m14_, ha, Q_HK, Q_I, Q_AL, Q_F15, Q_F18, Q_X14_⟩ hb_ hon hoff
      refine ⟨_, rfl, fun K hK => ?_⟩
      have e40 : a.tmps[40]? = some (.pointer (some ⟨g, 0, none⟩)) := by rw [ha]; exact putSel_on (e := (0, 40, .pointer (some ⟨g, 0, none⟩))) 0 rfl rfl (hon 0 (by kernel_rfl)) rfl
      replace ha := Aside0.mk ha
      have HK := Aside0.mk Q_HK
      have F15 := Aside0.mk (Q_F15 (hon 15 (by kernel_rfl)) (hoff 18 (by kernel_rfl)))
      refine value_ (w1 := w') (v := .pointer (some ⟨g, 0, none⟩)) (by rfl) rfl ?_ ?_
      · go_simp
        (try simp only [i64_w])
        try rfl
      refine hK.out _ _ ⟨KB, V1, m14_, (by rw [ha.out]; exact putSel_upk 16 hb_ rfl rfl rfl), Q_HK, fun h0_ => absurd ((hon 15 (by kernel_rfl)).symm.trans h0_) (by decide), fun _ h1_ => absurd ((hon 15 (by kernel_rfl)).symm.trans h1_) (by decide), Q_F15, fun h0_ => absurd ((hoff 18 (by kernel_rfl)).symm.trans h0_) (by decide), Q_X14_⟩
    refine steps_cons ?_ ?_
    · rintro b a w' ⟨KB, V1, m14_, ha, Q_HK, Q_I, Q_AL, Q_F15, Q_F18, Q_X14_⟩ hb_ hon hoff
      refine ⟨_, rfl, fun K hK => ?_⟩
      have e56 : a.tmps[56]? = some (.pointer (some ⟨g, 0, none⟩)) := by rw [ha]; exact putSel_on (e := (16, 56, .pointer (some ⟨g, 0, none⟩))) 16 rfl rfl (hon 16 (by kernel_rfl)) rfl
      replace ha := Aside0.mk ha
      have HK := Aside0.mk Q_HK
      have F15 := Aside0.mk (Q_F15 (hon 15 (by kernel_rfl)) (hoff 18 (by kernel_rfl)))
      refine value_ (w1 := w') (v := .pointer (some ⟨g, 4, none⟩)) (by rfl) rfl ?_ ?_
      · go_simp
        (try simp only [i64_w])
        try rfl
      refine hK.out _ _ ⟨KB, V1, m14_, (by rw [ha.out]; exact putSel_upk 17 hb_ rfl rfl rfl), Q_HK, fun h0_ => absurd ((hon 15 (by kernel_rfl)).symm.trans h0_) (by decide), fun _ h1_ => absurd ((hon 15 (by kernel_rfl)).symm.trans h1_) (by decide), Q_F15, fun h0_ => absurd ((hoff 18 (by kernel_rfl)).symm.trans h0_) (by decide), Q_X14_⟩
    refine steps_cons ?_ ?_
    · rintro b a w' ⟨KB, V1, m14_, ha, Q_HK, Q_I, Q_AL, Q_F15, Q_F18, Q_X14_⟩ hb_ hon hoff
      refine ⟨_, rfl, fun K hK => ?_⟩
      have e57 : a.tmps[57]? = some (.pointer (some ⟨g, 4, none⟩)) := by rw [ha]; exact putSel_on (e := (17, 57, .pointer (some ⟨g, 4, none⟩))) 17 rfl rfl (hon 17 (by kernel_rfl)) rfl
      have e55 : a.tmps[55]? = some (V1) := by rw [ha]; exact putSel_on (e := (15, 55, V1)) 15 rfl rfl (hon 15 (by kernel_rfl)) rfl
      replace ha := Aside0.mk ha
      have HK := Aside0.mk Q_HK
      have F15 := Aside0.mk (Q_F15 (hon 15 (by kernel_rfl)) hb_)
      obtain ⟨hblk_, hi_⟩ := F15.out
      have hc_ := blk_cell hblk_ 4
      have hf_ := blk_frozen hblk_ 4
      obtain ⟨A1_, c1_, hv1_⟩ := Kd.R_slice hi_.wait
      replace hv1_ : V1 = .slice A1_ _ c1_ := hv1_
      refine skip_ (w1 := w'.setCell ⟨g, 4, none⟩ V1) (by rfl) rfl ?_ ?_
      · rw [hv1_] at e55 ⊢
        go_simp
        try rfl
      refine hK.out _ _ ⟨KB, V1, m14_, (by rw [ha.out]; exact putSel_none (v := undef) rfl), (HK.out.setCell (.inl sg.out) _), fun h0_ => absurd ((hon 15 (by kernel_rfl)).symm.trans h0_) (by decide), fun _ h1_ => absurd ((hon 15 (by kernel_rfl)).symm.trans h1_) (by decide), fun _ h1_ => absurd ((up_self b 18).symm.trans h1_) (by decide), fun _ => (by rw [show (w'.setCell ⟨g, 4, none⟩ V1).heap.size = w'.heap.size from by simp [World.setCell]]; exact hi_), Q_X14_⟩
    exact steps_nil
  rintro b a w' hall ⟨KB, V1, m14_, ha, Q_HK, Q_I, Q_AL, Q_F15, Q_F18, Q_X14_⟩
  clear HK I
  have hb0_ := hall 0 (by kernel_rfl)
  have hb1_ := hall 1 (by kernel_rfl)
  have hb2_ := hall 2 (by kernel_rfl)
  have hb3_ := hall 3 (by kernel_rfl)
  have hb4_ := hall 4 (by kernel_rfl)
  have hb5_ := hall 5 (by kernel_rfl)
  have hb6_ := hall 6 (by kernel_rfl)
  have hb7_ := hall 7 (by kernel_rfl)
  have hb8_ := hall 8 (by kernel_rfl)
  have hb9_ := hall 9 (by kernel_rfl)
  have hb10_ := hall 10 (by kernel_rfl)
  have hb11_ := hall 11 (by kernel_rfl)
  have hb12_ := hall 12 (by kernel_rfl)
  have hb13_ := hall 13 (by kernel_rfl)
  have hb14_ := hall 14 (by kernel_rfl)
  have hb15_ := hall 15 (by kernel_rfl)
  have hb16_ := hall 16 (by kernel_rfl)
  have hb17_ := hall 17 (by kernel_rfl)
  have hb18_ := hall 18 (by kernel_rfl)
  subst ha
  obtain rfl := Q_X14_ hb14_
  simp only [putSel, hb0_, hb1_, hb2_, hb3_, hb4_, hb5_, hb6_, hb7_, hb8_, hb9_, hb10_, hb11_, hb12_, hb13_, hb14_, hb15_, hb16_, hb17_, hb18_, if_true, Act.put, List.setIfInBounds_toArray, List.set_cons_zero, List.set_cons_succ]
  have HK := Aside0.mk Q_HK
  clear Q_HK
  clear Q_I
  clear Q_AL
  clear Q_F15
  have F18 := Aside0.mk (Q_F18 hb18_)
  clear Q_F18
  clear hall hb0_ hb1_ hb2_ hb3_ hb4_ hb5_ hb6_ hb7_ hb8_ hb9_ hb10_ hb11_ hb12_ hb13_ hb14_ hb15_ hb16_ hb17_ hb18_
  have hfin := F18.out
  clear F18 hmem hat2 hwl hvw hsw
  go_wp2
  go_ret
  refine ⟨rfl, sw, ES.out, ⟨⟨.slice (some ⟨gn, 0, none⟩) nn cn, .slice (some ⟨gt, 0, none⟩) nt ct, vs, vb, V1⟩, ?_⟩, HK.out⟩
  rw [HD2.out, HS2.out, HD1.out] at hfin
  have e : wrD D i sw = { mid (stepD D) i sw true true with wait := (mid (stepD D) i sw true true).wait ++ [⟨i, sw⟩] } := by
    unfold wrD
    rw [show (mid (stepD D) i sw true true).wait = (stepD D).wait from rfl, HD.out]
  rw [e]
  refine hfin.mono (fun k hk => ?_) (fun k hk => ?_)
  · rcases hk with (h1 | h1) | h1
    · exact .inl h1
    · exact .inr ⟨NB2.out k h1, (hfin.bound k (.inl (.inr h1))).2⟩
    · exact .inr h1
  · rcases hk with h1 | h1
    · exact hfin.bound k (.inl (.inl h1))
    · exact ⟨Nat.le_trans hba.out h1.1, h1.2⟩
/-- A write that is refused. -/
theorem write_no (h : IsD w base g S D r) (i : Int) (A : Option Addr) (c : Nat) (l : List Int) (hno : askF D i ≠ 0 ∨ 512 < l.length) :
    Calls Try.prog 20 #[.pointer (some ⟨g, 0, none⟩), .int .i64 i, .slice A l.length c] w fun e w' => e = .returned (.int .i64 (wrE D i l.length)) ∧ w' = w := by
  have hL := Aside0.mk (ask_ok h i)
  clear h
  by_cases h1 : askF D i = 1
  · have t1 : (askF D i == 1) = true := by rw [h1]; rfl
    have e1 := Aside0.mk (show wrE D i l.length = 1 from if_pos (.inl h1))
    clear h1 hno
    go_enter Try.func20, Try.ntmps20
    go_wp2_with fail
    refine hL.out.mono ?_
    rintro e w' ⟨rfl, rfl⟩
    go_wp2
    go_ret
    exact ⟨by rw [e1.out]; rfl, rfl⟩
  · have t1 : (askF D i == 1) = false := by simpa using h1
    by_cases h2 : 512 < l.length
    · have t2 : decide (512 < l.length) = true := decide_eq_true h2
      have t3 : decide ((512 : Int) < (l.length : Int)) = true := decide_eq_true (by omega)
      have e1 := Aside0.mk (show wrE D i l.length = 1 from if_pos (.inr h2))
      clear h1 h2 hno
      go_enter Try.func20, Try.ntmps20
      go_wp2_with fail
      refine hL.out.mono ?_
      rintro e w' ⟨rfl, rfl⟩
      go_wp2
      go_ret
      exact ⟨by rw [e1.out]; rfl, rfl⟩
    · have t2 : decide (512 < l.length) = false := decide_eq_false h2
      have t3 : decide ((512 : Int) < (l.length : Int)) = false := decide_eq_false (by omega)
      have h3 : askF D i ≠ 0 := hno.resolve_right h2
      have t4 : (askF D i != 0) = true := by simpa using h3
      have e1 := Aside0.mk (show wrE D i l.length = askF D i by unfold wrE; rw [if_neg (by omega), if_neg h3])
      clear h1 h2 h3 hno
      go_enter Try.func20, Try.ntmps20
      go_wp2_with fail
      refine hL.out.mono ?_
      rintro e w' ⟨rfl, rfl⟩
      go_wp2
      go_ret
      exact ⟨by rw [e1.out]; rfl, rfl⟩
end
end Go.Proofs.Ytihmfccpgahmaaa.Dk
