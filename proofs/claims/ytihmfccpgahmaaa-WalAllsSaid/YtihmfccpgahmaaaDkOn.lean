/- disk.On, walked. -/
import Derived.Test.YtihmfccpgahmaaaDkSyncB
import Derived.Test.YtihmfccpgahmaaaCopy
namespace Go.Proofs.Ytihmfccpgahmaaa.Dk
open Go Go.RowKit Go.Proofs.YtihmfccpgahmaaaW.PrintWords Go.Proofs.YtihmfccpgahmaaaW.PrintMore Go.Proofs.YtihmfccpgahmaaaW.PrintLast
set_option linter.unusedVariables false
set_option linter.unusedSimpArgs false

/-- One that waits, when the power comes again. -/
def onP (keep : List Bool) (tear : Int) (D : DkS) (k : Nat) (x : Wt) : DkS := if keep.getD k false = true then putW D x else if (k : Int) = tear then { D with bad := D.bad.set x.at_.toNat true } else D
def onK (keep : List Bool) (tear : Int) (D : DkS) : Nat → DkS
  | 0 => D
  | k + 1 => onP keep tear (onK keep tear D k) k (D.wait.getD k ⟨0, Sec.nil⟩)
def onD (keep : List Bool) (tear : Int) (D : DkS) : DkS := let E := onK keep tear D D.wait.length; { E with now := E.safe, torn := E.bad, wait := [], fuse := 0, down := false }

theorem onP_same (keep : List Bool) (tear : Int) (D : DkS) (k : Nat) (x : Wt) : (onP keep tear D k x).wait = D.wait ∧ (onP keep tear D k x).now = D.now ∧ (onP keep tear D k x).torn = D.torn ∧ (onP keep tear D k x).fuse = D.fuse ∧ (onP keep tear D k x).down = D.down ∧ (onP keep tear D k x).work = D.work := by
  unfold onP
  split
  · exact ⟨rfl, rfl, rfl, rfl, rfl, rfl⟩
  · split <;> exact ⟨rfl, rfl, rfl, rfl, rfl, rfl⟩
theorem onK_same (keep : List Bool) (tear : Int) (D : DkS) (k : Nat) : (onK keep tear D k).wait = D.wait ∧ (onK keep tear D k).now = D.now ∧ (onK keep tear D k).torn = D.torn ∧ (onK keep tear D k).fuse = D.fuse ∧ (onK keep tear D k).down = D.down ∧ (onK keep tear D k).work = D.work := by
  induction k with
  | zero => exact ⟨rfl, rfl, rfl, rfl, rfl, rfl⟩
  | succ k ih =>
    obtain ⟨h1, h2, h3, h4, h5, h6⟩ := onP_same keep tear (onK keep tear D k) k (D.wait.getD k ⟨0, Sec.nil⟩)
    obtain ⟨i1, i2, i3, i4, i5, i6⟩ := ih
    exact ⟨h1.trans i1, h2.trans i2, h3.trans i3, h4.trans i4, h5.trans i5, h6.trans i6⟩

def cpN (D : DkS) (x : Bool) : DkS := { D with now := cond x D.safe D.now }
def cpT (D : DkS) (x : Bool) : DkS := { D with torn := cond x D.bad D.torn }
def midT (D : DkS) (x : Wt) (q : Bool) : DkS := { D with bad := cond q (D.bad.set x.at_.toNat true) D.bad }

section
variable {w w1 : World} {base g : Nat} {S : Nat → Prop} {D : DkS} {r : Rws}
theorem midt_bad {x : Wt} (h : IsD w base g S (midT D x false) r) {z n c : Nat} (hv : r.b = .slice (some ⟨z, 0, none⟩) n c) : IsD (w.setCell ⟨z, x.at_.toNat, none⟩ (.bool true)) base g S (midT D x true) r :=
  h.put_bad hv x.at_ true
theorem cpn_copy (h : IsD w base g S D r) (hR : kSec.R 22 w1 base (fun k => S k ∧ some k ≠ r.s.ownBlock) r.n D.safe) (hg : w.grownBy w1 r.n.ownBlock) : IsD w1 base g S (cpN D true) r :=
  have ty := Kd.R_typed h.now
  have own : ∀ s, Own w base S s → Own w1 base S s := fun s hs => Kd.R_over' hs ty (by decide) hg
  { blk := blk_grown h.blk hg (Kd.R_ne h.now h.blk (by decide))
    bound := fun k hk => ⟨(h.bound k hk).1, Nat.lt_of_lt_of_le (h.bound k hk).2 hg.size⟩
    sg := h.sg
    now := hR
    safe := Kd.R_grown h.safe hg (fun k hk => hk.2)
    torn := Kd.R_over' h.torn ty (by decide) hg
    bad := Kd.R_over' h.bad ty (by decide) hg
    wait := Kd.R_over' h.wait ty (by decide) hg
    onow := fun s hs => own s (h.osafe s hs)
    osafe := fun s hs => own s (h.osafe s hs)
    owait := fun s hs => own _ (h.owait s hs)
    fnow := h.fsafe
    fsafe := h.fsafe
    fwait := h.fwait
    lt := h.lt.trans h.ls.symm
    ls := rfl
    lb := h.lb.trans h.ls.symm
    lw := fun z hz => by have h1 := h.lw z hz; have h2 := h.ls; exact ⟨h1.1, by show z.at_ < (D.safe.length : Int); omega⟩
    ln := by have h1 := h.ln; have h2 := h.ls; show D.safe.length ≤ 65536; omega
    lf := h.lf }
theorem cpt_copy (h : IsD w base g S D r) (hR : Kd.bool.R 4 w1 base (fun k => S k ∧ some k ≠ r.b.ownBlock) r.t D.bad) (hg : w.grownBy w1 r.t.ownBlock) : IsD w1 base g S (cpT D true) r :=
  have ty := Kd.R_typed h.torn
  have own : ∀ s, Own w base S s → Own w1 base S s := fun s hs => Kd.R_over' hs ty (by decide) hg
  { blk := blk_grown h.blk hg (Kd.R_ne h.torn h.blk (by decide))
    bound := fun k hk => ⟨(h.bound k hk).1, Nat.lt_of_lt_of_le (h.bound k hk).2 hg.size⟩
    sg := h.sg
    now := Kd.R_over' h.now ty (by decide) hg
    safe := Kd.R_over' h.safe ty (by decide) hg
    torn := hR
    bad := Kd.R_grown h.bad hg (fun k hk => hk.2)
    wait := Kd.R_over' h.wait ty (by decide) hg
    onow := fun s hs => own s (h.onow s hs)
    osafe := fun s hs => own s (h.osafe s hs)
    owait := fun s hs => own _ (h.owait s hs)
    fnow := h.fnow
    fsafe := h.fsafe
    fwait := h.fwait
    lt := h.lb
    ls := h.ls
    lb := h.lb
    lw := h.lw
    ln := h.ln
    lf := h.lf }

/-- A world that is a disk's but for the box. -/
def NearD (w : World) (base g : Nat) (S : Nat → Prop) (D : DkS) (r : Rws) : Prop := ∃ W0, IsD W0 base g S D r ∧ W0.heap.size = w.heap.size ∧ ∀ k, k ≠ g → w.heap[k]? = W0.heap[k]?
theorem NearD.put (h : NearD w base g S D r) (i : Nat) (u : Value) : NearD (w.setCell ⟨g, i, none⟩ u) base g S D r := by
  obtain ⟨W0, h1, h2, h3⟩ := h
  exact ⟨W0, h1, h2.trans (by simp [World.setCell]), fun k hk => (Below.heap_setCell _ _ _ _ hk).trans (h3 k hk)⟩
theorem NearD.drew (h : NearD w base g S D r) : NearD w.drew base g S D r := h
theorem NearD.done (h : NearD w base g S D r) (hb : w.heap[g]? = some (.cells #[r.n, r.t, r.s, r.b, r.w, .int .i64 D.fuse, .bool D.down, .int .i64 D.work] 83 (0, 0))) : IsD w base g S D r := by
  obtain ⟨W0, h1, h2, h3⟩ := h
  refine h1.step (Nat.le_of_eq h2) (fun k hk hlt => ?_)
  by_cases he : k = g
  · subst he; exact hb.trans h1.blk.symm
  · exact h3 k he

/-- The row of what waits is cleared: what the box will be. -/
theorem near_clear (h : IsD w base g S D r) (hg : w.grownBy w1 r.w.ownBlock) (hz : w1.heap.size = w.heap.size) : w1.heap[g]? = some (.cells #[r.n, r.t, r.s, r.b, r.w, .int .i64 D.fuse, .bool D.down, .int .i64 D.work] 83 (0, 0)) ∧ NearD w1 base g S { D with wait := [], fuse := 0, down := false } { r with w := .slice none 0 0 } := by
  have ty := Kd.R_typed h.wait
  have hb := blk_grown h.blk hg (Kd.R_ne h.wait h.blk (by decide))
  have own : ∀ s, Own w base S s → Own w1 base S s := fun s hs => Kd.R_over' hs ty (by decide) hg
  have hI : IsD w1 base g S { D with wait := [] } { r with w := r.w } → True := fun _ => trivial
  refine ⟨hb, ((w1.setCell ⟨g, 4, none⟩ (.slice none 0 0)).setCell ⟨g, 5, none⟩ (.int .i64 0)).setCell ⟨g, 6, none⟩ (.bool false), ?_, by simp [World.setCell], fun k hk => ?_⟩
  · have far : ∀ {α : Type} {d : Kd α} {e : Nat} {ok : Nat → Prop} {v : Value} {xs : List α}, d.R e w1 base ok v xs → (∀ q, q ∈ e :: d.E → q ≠ 83) → d.R e (((w1.setCell ⟨g, 4, none⟩ (.slice none 0 0)).setCell ⟨g, 5, none⟩ (.int .i64 0)).setCell ⟨g, 6, none⟩ (.bool false)) base ok v xs := by
      intro α d e ok v xs hR ht
      have b1 := blk_put hb 4 (.slice none 0 0) rfl
      have b2 := blk_put b1 5 (.int .i64 0) rfl
      exact R_far' (R_far' (R_far' hR hb ht _ _) b1 ht _ _) b2 ht _ _
    exact {
      blk := blk_put (blk_put (blk_put hb 4 _ rfl) 5 _ rfl) 6 _ rfl
      bound := fun k hk => ⟨(h.bound k hk).1, by simp only [World.setCell, Array.size_modify]; rw [hz]; exact (h.bound k hk).2⟩
      sg := h.sg
      now := far (Kd.R_over' h.now ty (by decide) hg) (by decide)
      safe := far (Kd.R_over' h.safe ty (by decide) hg) (by decide)
      torn := far (Kd.R_over' h.torn ty (by decide) hg) (by decide)
      bad := far (Kd.R_over' h.bad ty (by decide) hg) (by decide)
      wait := Kd.R_nil _ _ _ _ _
      onow := fun s hs => far (own s (h.onow s hs)) (by decide)
      osafe := fun s hs => far (own s (h.osafe s hs)) (by decide)
      owait := fun s hs => by cases hs
      fnow := h.fnow
      fsafe := h.fsafe
      fwait := fun s hs => by cases hs
      lt := h.lt
      ls := h.ls
      lb := h.lb
      lw := fun s hs => by cases hs
      ln := h.ln
      lf := ⟨Int.le_refl _, show (0 : Int) ≤ 9223372036854775807 by omega⟩ }
  · exact ((Below.heap_setCell _ _ _ _ hk).trans ((Below.heap_setCell _ _ _ _ hk).trans (Below.heap_setCell _ _ _ _ hk))).symm
end

theorem zeroW (w : World) : (zeroValue 87).run Try.prog w = .ok (.agg #[.int .i64 0, .slice none 0 0]) w := by kernel_rfl

def dkon5.T5 : Bool × List (List Nat × List Nat) := (true, [([], []), ([0], [0]), ([1], [1]), ([2], [2]), ([], []), ([4], [4]), ([], []), ([6], [6]), ([7], [7]), ([8], [8]), ([], []), ([10], [10]), ([], []), ([12], [12]), ([3, 5, 0, 1, 2, 3, 4, 5, 9, 12, 13], [3, 5]), ([14, 13, 0, 1, 2, 3, 4, 5, 9, 12, 13], [13, 14]), ([9, 11, 0, 1, 2, 3, 4, 5, 6, 7, 8, 9, 10, 11, 12, 13, 14, 15], [9, 11]), ([16, 15, 0, 1, 2, 3, 4, 5, 6, 7, 8, 9, 10, 11, 12, 13, 14, 15], [16])])
def dkon5.B5 : List Nat := [0, 1, 3, 7, 0, 16, 0, 64, 192, 448, 0, 1024, 0, 4096, 13311, 29695, 65535, 131071]
theorem dkon5.tab5 : rtab .any (opsOf Try.f22 5) = dkon5.T5 := by kernel_rfl
theorem dkon5.bits5 : waitsOk dkon5.T5.2 dkon5.B5 = true := by kernel_rfl
def dkon7.T7 : Bool × List (List Nat × List Nat) := (true, [([], []), ([0], [0]), ([1], [1]), ([2], [2]), ([], []), ([4], [4]), ([3, 5, 0, 1, 2, 3, 4, 5], [3, 5]), ([6, 0, 1, 2, 3, 4, 5], [6])])
def dkon7.B7 : List Nat := [0, 1, 3, 7, 0, 16, 63, 127]
theorem dkon7.tab7 : rtab .any (opsOf Try.f22 7) = dkon7.T7 := by kernel_rfl
theorem dkon7.bits7 : waitsOk dkon7.T7.2 dkon7.B7 = true := by kernel_rfl
def dkon9.T9 : Bool × List (List Nat × List Nat) := (true, [([], []), ([0], [0]), ([1], [1]), ([2], [2]), ([], []), ([4], [4]), ([5], [5]), ([6], [6]), ([3, 7], [3, 7])])
def dkon9.B9 : List Nat := [0, 1, 3, 7, 0, 16, 48, 112, 255]
theorem dkon9.tab9 : rtab .any (opsOf Try.f22 9) = dkon9.T9 := by kernel_rfl
theorem dkon9.bits9 : waitsOk dkon9.T9.2 dkon9.B9 = true := by kernel_rfl
def dkon10.T10 : Bool × List (List Nat × List Nat) := (true, [([], []), ([0], [0]), ([1], [1]), ([2], [2]), ([], []), ([4], [4]), ([5], [5]), ([6], [6]), ([3, 7], [3, 7])])
def dkon10.B10 : List Nat := [0, 1, 3, 7, 0, 16, 48, 112, 255]
theorem dkon10.tab10 : rtab .any (opsOf Try.f22 10) = dkon10.T10 := by kernel_rfl
theorem dkon10.bits10 : waitsOk dkon10.T10.2 dkon10.B10 = true := by kernel_rfl
section
variable {w : World} {base g : Nat} {S : Nat → Prop} {D : DkS} {r : Rws}
set_option maxRecDepth 100000 in
set_option maxHeartbeats 4000000 in
theorem on_ok (h : IsD w base g S D r) (kA : Option Addr) (kc : Nat) (keep : List Bool) (hC0 : ∀ W', Kept w W' S → Kd.C Kd.bool W' kA keep.length keep) (hkc0 : keep.length ≤ 9223372036854775807) (tear : Int) (hba0 : base ≤ w.heap.size) (hwn0 : D.wait.length ≤ 1000000) :
    Calls Try.prog 22 #[.pointer (some ⟨g, 0, none⟩), .slice kA keep.length kc, .int .i64 tear] w fun e w' => e = .returned (.tuple #[]) ∧ ∃ r', IsD w' base g S (onD keep tear D) r' ∧ Kept w w' S := by
  have HI := Aside0.mk h
  have HC := Aside0.mk hC0
  have hba := Aside0.mk hba0
  have hwn := hwn0
  have hkc := hkc0
  obtain ⟨Aw, cw, hvw, hlw⟩ := row_len h.wait
  have c4 : w.cell? ⟨g, 4, none⟩ = some (.slice Aw D.wait.length cw) := (blk_cell h.blk 4).trans (by rw [hvw]; rfl)
  have HV := Aside0.mk hvw
  clear h hC0 hba0 hwn0 hkc0 hvw hlw
  go_enter Try.func22, Try.ntmps22
  go_wp2
  go_loopw [15] (fun i wr => ∃ k : Nat, k ≤ D.wait.length ∧ i = .int .i64 k ∧ Aside0 (IsD wr base g S (onK keep tear D k) r ∧ Kept w wr S)) (fun i _ => D.wait.length - (intOf i).toNat)
  case atStart => exact ⟨0, Nat.zero_le _, rfl, ⟨HI.out, Kept.refl _ _⟩⟩
  case round =>
    obtain ⟨k, hk, rfl, hR⟩ := hrel
    by_cases hlt : k < D.wait.length
    · have hpos : 0 < D.wait.length := by omega
      obtain ⟨hw_, _, _, _, _, _⟩ := onK_same keep tear D k
      obtain ⟨gw, cw', hvw, _⟩ := Kd.R_form hR.out.1.wait (by rw [hw_]; exact hpos)
      have hvw2 := HV.out.symm.trans hvw
      injection hvw2 with e1 e2 e3
      obtain ⟨hc1, hc2⟩ := wt_cells hR.out.1 hvw k (by rw [hw_]; exact hlt)
      obtain ⟨x, hx⟩ : ∃ x, x = D.wait[k] := ⟨_, rfl⟩
      have hx2 : (onK keep tear D k).wait[k]'(by rw [hw_]; exact hlt) = x := by rw [hx]; simp only [hw_]
      rw [hx2] at hc1 hc2
      have HX := Aside0.mk (show D.wait.getD k ⟨0, Sec.nil⟩ = x by rw [hx]; simp [List.getD_eq_getElem?_getD, List.getElem?_eq_getElem hlt])
      have hmem0 := Aside0.mk (show x ∈ (onK keep tear D k).wait by rw [hw_, hx]; exact List.getElem_mem _)
      subst e1
      have hbw := Aside0.mk (hR.out.1.bound)
      unfold Sec.v at hc2
      clear hx hx2 e2 e3 hvw hpos hw_ c4
      go_upto_region 4 with fail
      obtain ⟨vn, vt, vs, vb, vw⟩ := r
      have hI := hR.out.1
      obtain ⟨D2, hD2⟩ : ∃ d, d = onK keep tear D k := ⟨_, rfl⟩
      have hmem : x ∈ D2.wait := by rw [hD2]; exact hmem0.out
      rw [← hD2] at hI
      have hat := hI.lw x hmem
      have hls := hI.ls
      have hlb := hI.lb
      obtain ⟨gs, cs, hvs, _⟩ := Kd.R_form hI.safe (by omega)
      obtain ⟨gb, cb, hvb, _⟩ := Kd.R_form hI.bad (by omega)
      obtain ⟨ns, hns⟩ : ∃ n : Nat, n = D2.safe.length := ⟨_, rfl⟩
      obtain ⟨nb, hnb⟩ : ∃ n : Nat, n = D2.bad.length := ⟨_, rfl⟩
      rw [← hns] at hvs
      rw [← hnb] at hvb
      replace hvs : vs = .slice (some ⟨gs, 0, none⟩) ns cs := hvs
      replace hvb : vb = .slice (some ⟨gb, 0, none⟩) nb cb := hvb
      subst hvs hvb
      have hqs := Aside0.mk (show x.at_ < (ns : Int) by omega)
      have hqb := Aside0.mk (show x.at_ < (nb : Int) by omega)
      have sgs := Aside0.mk (show S gs from (hI.safe.1 gs (by simp [Value.ownBlock])).1)
      have sgb := Aside0.mk (show S gb from (hI.bad.1 gb (by simp [Value.ownBlock])).1)
      have p1 : (0 ≤ x.at_) = True := eq_true hat.1
      have q1 : (x.at_ < (ns : Int)) = True := eq_true hqs.out
      have q2 : (x.at_ < (nb : Int)) = True := eq_true hqb.out
      replace hat := Aside0.mk hat.1
      replace hmem := Aside0.mk hmem
      obtain ⟨KB, hKB⟩ : ∃ n : Nat, n = wr.heap.size := ⟨_, rfl⟩
      have hbd := Aside0.mk (show ∀ k, S k → k < KB from fun k hk => by rw [hKB]; exact (hbw.out k hk).2)
      have BX := Aside0.mk (blk_new wr (.cells #[.int .i64 x.at_, .slice x.s.a x.s.b.length x.s.c] 87 (0, 0)))
      have I := Aside0.mk (hI.below (below_alloc (Below.refl _ _) (.cells #[.int .i64 x.at_, .slice x.s.a x.s.b.length x.s.c] 87 (0, 0))))
      have HK := Aside0.mk (hR.out.2.alloc (.cells #[.int .i64 x.at_, .slice x.s.a x.s.b.length x.s.c] 87 (0, 0)))
      rw [← hKB] at BX ⊢
      generalize wr.alloc _ = wa at BX I HK ⊢
      have HD2 := Aside0.mk hD2
      have hC := Aside0.mk (HC.out wa HK.out)
      clear hns hnb hls hlb hI hD2 hc1 hc2 hKB hR HV HI
      obtain ⟨kb, hkb⟩ : ∃ b, b = keep.getD k false := ⟨_, rfl⟩
      have HKB := Aside0.mk hkb
      have HON := Aside0.mk (show onK keep tear D (k + 1) = onP keep tear D2 k x by rw [HD2.out, ← HX.out]; rfl)
      cases kb with
      | true =>
        have hkl : k < keep.length := by
          rcases Nat.lt_or_ge k keep.length with h | h
          · exact h
          · rw [List.getD_eq_getElem?_getD, List.getElem?_eq_none h] at hkb; cases hkb
        obtain ⟨ad, hA, hcell⟩ := Kd.at_bool hC.out (k : Int) (by omega) (by omega)
        subst hA
        have hcell' : wa.cell? (ad.add k) = some (.bool true) := by
          have h_ := hcell
          rw [show rdOf false keep (k : Int) = true by unfold rdOf; rw [Int.toNat_natCast]; exact hkb.symm] at h_
          simpa using h_
        have tk : decide (k < keep.length) = true := decide_eq_true hkl
        replace I : Aside0 (IsD wa base g S (midS D2 x false false) _) := I
        clear hcell hkb hC HC
        go_upto_region 5 with fail
        refine start_ (n := 18) (S := fun w' => True) (ds := []) #[false, false, false, false, false, false, false, false, false, false, false, false, false, false, false, false, false, false] (by kernel_rfl) rfl rfl trivial (fun hHeld => ?_)
        refine with_tabW dkon5.tab5 dkon5.bits5 (fun HT_ HW_ => ?_)
        have n0_ := Aside0.mk (I.out.below (below_drew (Below.refl _ _)))
        have n1_ := Aside0.mk (HK.out.drew)
        have n2_ := Aside0.mk (blk_drew BX.out)
        clear I HK BX
        generalize World.drew _ = wd at n0_ n1_ n2_ hHeld ⊢
        have I := n0_
        have HK := n1_
        have BX := n2_
        clear hHeld n0_ n1_ n2_
        refine inv_at [0, 1, 2, 3, 4, 5, 6, 7, 8, 9, 10, 11, 12, 13, 14, 15, 16, 17] (fun a0_ b a w' => a = putSel a0_ b [(0, 31, .pointer (some ⟨g, 0, none⟩)), (1, 32, .pointer (some ⟨g, 0, none⟩)), (2, 33, .pointer (some ⟨g, 2, none⟩)), (3, 34, .slice (some ⟨gs, 0, none⟩) ns cs), (4, 35, .pointer (some ⟨KB, 0, none⟩)), (5, 36, .int .i64 x.at_), (6, 37, .pointer (some ⟨g, 0, none⟩)), (7, 38, .pointer (some ⟨g, 0, none⟩)), (8, 39, .pointer (some ⟨g, 3, none⟩)), (9, 40, .slice (some ⟨gb, 0, none⟩) nb cb), (10, 41, .pointer (some ⟨KB, 0, none⟩)), (11, 42, .int .i64 x.at_), (12, 43, .pointer (some ⟨KB, 1, none⟩)), (13, 44, .slice x.s.a x.s.b.length x.s.c), (14, 45, .pointer (some ⟨gs, x.at_.toNat, none⟩)), (16, 46, .pointer (some ⟨gb, x.at_.toNat, none⟩))] ∧ (IsD w' base g S (midS D2 x (b 15) (b 17)) ⟨vn, vt, .slice (some ⟨gs, 0, none⟩) ns cs, .slice (some ⟨gb, 0, none⟩) nb cb, vw⟩) ∧ (Kept w w' S) ∧ (w'.heap[KB]? = some (.cells #[.int .i64 x.at_, .slice x.s.a x.s.b.length x.s.c] 87 (0, 0)))) HT_.out HW_.out (by kernel_rfl) (by kernel_rfl) ?_ ?_ ?_
        · exact ⟨by simp only [putSel, Bool.false_eq_true, if_false], I.out, HK.out, BX.out⟩
        · skip
          clear BX HK I
          refine steps_cons ?_ ?_
          · rintro b a w' ⟨ha, Q_I, Q_HK, Q_BX⟩ hb_ hon hoff
            refine ⟨_, rfl, fun K hK => ?_⟩
            have e0 : a.tmps[0]? = some (.pointer (some ⟨g, 0, none⟩)) := by rw [ha]; exact (putSel_off rfl).trans rfl
            replace ha := Aside0.mk ha
            have I := Aside0.mk Q_I
            have HK := Aside0.mk Q_HK
            have BX := Aside0.mk Q_BX
            refine value_ (w1 := w') (v := .pointer (some ⟨g, 0, none⟩)) (by rfl) rfl ?_ ?_
            · go_simp
              (try simp only [i64_w])
              try rfl
            refine hK.out _ _ ⟨(by rw [ha.out]; exact putSel_upk 0 hb_ rfl rfl rfl), Q_I, Q_HK, Q_BX⟩
          refine steps_cons ?_ ?_
          · rintro b a w' ⟨ha, Q_I, Q_HK, Q_BX⟩ hb_ hon hoff
            refine ⟨_, rfl, fun K hK => ?_⟩
            have e31 : a.tmps[31]? = some (.pointer (some ⟨g, 0, none⟩)) := by rw [ha]; exact putSel_on (e := (0, 31, .pointer (some ⟨g, 0, none⟩))) 0 rfl rfl (hon 0 (by kernel_rfl)) rfl
            replace ha := Aside0.mk ha
            have I := Aside0.mk Q_I
            have HK := Aside0.mk Q_HK
            have BX := Aside0.mk Q_BX
            refine value_ (w1 := w') (v := .pointer (some ⟨g, 0, none⟩)) (by rfl) rfl ?_ ?_
            · go_simp
              (try simp only [i64_w])
              try rfl
            refine hK.out _ _ ⟨(by rw [ha.out]; exact putSel_upk 1 hb_ rfl rfl rfl), Q_I, Q_HK, Q_BX⟩
          refine steps_cons ?_ ?_
          · rintro b a w' ⟨ha, Q_I, Q_HK, Q_BX⟩ hb_ hon hoff
            refine ⟨_, rfl, fun K hK => ?_⟩
            have e32 : a.tmps[32]? = some (.pointer (some ⟨g, 0, none⟩)) := by rw [ha]; exact putSel_on (e := (1, 32, .pointer (some ⟨g, 0, none⟩))) 1 rfl rfl (hon 1 (by kernel_rfl)) rfl
            replace ha := Aside0.mk ha
            have I := Aside0.mk Q_I
            have HK := Aside0.mk Q_HK
            have BX := Aside0.mk Q_BX
            refine value_ (w1 := w') (v := .pointer (some ⟨g, 2, none⟩)) (by rfl) rfl ?_ ?_
            · go_simp
              (try simp only [i64_w])
              try rfl
            refine hK.out _ _ ⟨(by rw [ha.out]; exact putSel_upk 2 hb_ rfl rfl rfl), Q_I, Q_HK, Q_BX⟩
          refine steps_cons ?_ ?_
          · rintro b a w' ⟨ha, Q_I, Q_HK, Q_BX⟩ hb_ hon hoff
            refine ⟨_, rfl, fun K hK => ?_⟩
            have e33 : a.tmps[33]? = some (.pointer (some ⟨g, 2, none⟩)) := by rw [ha]; exact putSel_on (e := (2, 33, .pointer (some ⟨g, 2, none⟩))) 2 rfl rfl (hon 2 (by kernel_rfl)) rfl
            replace ha := Aside0.mk ha
            have I := Aside0.mk Q_I
            have HK := Aside0.mk Q_HK
            have BX := Aside0.mk Q_BX
            have hc_ : w'.cell? ⟨g, 2, none⟩ = some (.slice (some ⟨gs, 0, none⟩) ns cs) := (blk_cell I.out.blk 2).trans rfl
            refine value_ (w1 := w') (v := .slice (some ⟨gs, 0, none⟩) ns cs) (by rfl) rfl ?_ ?_
            · go_simp
              (try simp only [i64_w])
              try rfl
            refine hK.out _ _ ⟨(by rw [ha.out]; exact putSel_upk 3 hb_ rfl rfl rfl), Q_I, Q_HK, Q_BX⟩
          refine steps_cons ?_ ?_
          · rintro b a w' ⟨ha, Q_I, Q_HK, Q_BX⟩ hb_ hon hoff
            refine ⟨_, rfl, fun K hK => ?_⟩
            have e7 : a.tmps[7]? = some (.pointer (some ⟨KB, 0, none⟩)) := by rw [ha]; exact (putSel_off rfl).trans rfl
            replace ha := Aside0.mk ha
            have I := Aside0.mk Q_I
            have HK := Aside0.mk Q_HK
            have BX := Aside0.mk Q_BX
            refine value_ (w1 := w') (v := .pointer (some ⟨KB, 0, none⟩)) (by rfl) rfl ?_ ?_
            · go_simp
              (try simp only [i64_w])
              try rfl
            refine hK.out _ _ ⟨(by rw [ha.out]; exact putSel_upk 4 hb_ rfl rfl rfl), Q_I, Q_HK, Q_BX⟩
          refine steps_cons ?_ ?_
          · rintro b a w' ⟨ha, Q_I, Q_HK, Q_BX⟩ hb_ hon hoff
            refine ⟨_, rfl, fun K hK => ?_⟩
            have e35 : a.tmps[35]? = some (.pointer (some ⟨KB, 0, none⟩)) := by rw [ha]; exact putSel_on (e := (4, 35, .pointer (some ⟨KB, 0, none⟩))) 4 rfl rfl (hon 4 (by kernel_rfl)) rfl
            replace ha := Aside0.mk ha
            have I := Aside0.mk Q_I
            have HK := Aside0.mk Q_HK
            have BX := Aside0.mk Q_BX
            have hc_ : w'.cell? ⟨KB, 0, none⟩ = some (.int .i64 x.at_) := (blk_cell BX.out 0).trans rfl
            refine value_ (w1 := w') (v := .int .i64 x.at_) (by rfl) rfl ?_ ?_
            · go_simp
              (try simp only [i64_w])
              try rfl
            refine hK.out _ _ ⟨(by rw [ha.out]; exact putSel_upk 5 hb_ rfl rfl rfl), Q_I, Q_HK, Q_BX⟩
          refine steps_cons ?_ ?_
          · rintro b a w' ⟨ha, Q_I, Q_HK, Q_BX⟩ hb_ hon hoff
            refine ⟨_, rfl, fun K hK => ?_⟩
            have e0 : a.tmps[0]? = some (.pointer (some ⟨g, 0, none⟩)) := by rw [ha]; exact (putSel_off rfl).trans rfl
            replace ha := Aside0.mk ha
            have I := Aside0.mk Q_I
            have HK := Aside0.mk Q_HK
            have BX := Aside0.mk Q_BX
            refine value_ (w1 := w') (v := .pointer (some ⟨g, 0, none⟩)) (by rfl) rfl ?_ ?_
            · go_simp
              (try simp only [i64_w])
              try rfl
            refine hK.out _ _ ⟨(by rw [ha.out]; exact putSel_upk 6 hb_ rfl rfl rfl), Q_I, Q_HK, Q_BX⟩
          refine steps_cons ?_ ?_
          · rintro b a w' ⟨ha, Q_I, Q_HK, Q_BX⟩ hb_ hon hoff
            refine ⟨_, rfl, fun K hK => ?_⟩
            have e37 : a.tmps[37]? = some (.pointer (some ⟨g, 0, none⟩)) := by rw [ha]; exact putSel_on (e := (6, 37, .pointer (some ⟨g, 0, none⟩))) 6 rfl rfl (hon 6 (by kernel_rfl)) rfl
            replace ha := Aside0.mk ha
            have I := Aside0.mk Q_I
            have HK := Aside0.mk Q_HK
            have BX := Aside0.mk Q_BX
            refine value_ (w1 := w') (v := .pointer (some ⟨g, 0, none⟩)) (by rfl) rfl ?_ ?_
            · go_simp
              (try simp only [i64_w])
              try rfl
            refine hK.out _ _ ⟨(by rw [ha.out]; exact putSel_upk 7 hb_ rfl rfl rfl), Q_I, Q_HK, Q_BX⟩
          refine steps_cons ?_ ?_
          · rintro b a w' ⟨ha, Q_I, Q_HK, Q_BX⟩ hb_ hon hoff
            refine ⟨_, rfl, fun K hK => ?_⟩
            have e38 : a.tmps[38]? = some (.pointer (some ⟨g, 0, none⟩)) := by rw [ha]; exact putSel_on (e := (7, 38, .pointer (some ⟨g, 0, none⟩))) 7 rfl rfl (hon 7 (by kernel_rfl)) rfl
            replace ha := Aside0.mk ha
            have I := Aside0.mk Q_I
            have HK := Aside0.mk Q_HK
            have BX := Aside0.mk Q_BX
            refine value_ (w1 := w') (v := .pointer (some ⟨g, 3, none⟩)) (by rfl) rfl ?_ ?_
            · go_simp
              (try simp only [i64_w])
              try rfl
            refine hK.out _ _ ⟨(by rw [ha.out]; exact putSel_upk 8 hb_ rfl rfl rfl), Q_I, Q_HK, Q_BX⟩
          refine steps_cons ?_ ?_
          · rintro b a w' ⟨ha, Q_I, Q_HK, Q_BX⟩ hb_ hon hoff
            refine ⟨_, rfl, fun K hK => ?_⟩
            have e39 : a.tmps[39]? = some (.pointer (some ⟨g, 3, none⟩)) := by rw [ha]; exact putSel_on (e := (8, 39, .pointer (some ⟨g, 3, none⟩))) 8 rfl rfl (hon 8 (by kernel_rfl)) rfl
            replace ha := Aside0.mk ha
            have I := Aside0.mk Q_I
            have HK := Aside0.mk Q_HK
            have BX := Aside0.mk Q_BX
            have hc_ : w'.cell? ⟨g, 3, none⟩ = some (.slice (some ⟨gb, 0, none⟩) nb cb) := (blk_cell I.out.blk 3).trans rfl
            refine value_ (w1 := w') (v := .slice (some ⟨gb, 0, none⟩) nb cb) (by rfl) rfl ?_ ?_
            · go_simp
              (try simp only [i64_w])
              try rfl
            refine hK.out _ _ ⟨(by rw [ha.out]; exact putSel_upk 9 hb_ rfl rfl rfl), Q_I, Q_HK, Q_BX⟩
          refine steps_cons ?_ ?_
          · rintro b a w' ⟨ha, Q_I, Q_HK, Q_BX⟩ hb_ hon hoff
            refine ⟨_, rfl, fun K hK => ?_⟩
            have e7 : a.tmps[7]? = some (.pointer (some ⟨KB, 0, none⟩)) := by rw [ha]; exact (putSel_off rfl).trans rfl
            replace ha := Aside0.mk ha
            have I := Aside0.mk Q_I
            have HK := Aside0.mk Q_HK
            have BX := Aside0.mk Q_BX
            refine value_ (w1 := w') (v := .pointer (some ⟨KB, 0, none⟩)) (by rfl) rfl ?_ ?_
            · go_simp
              (try simp only [i64_w])
              try rfl
            refine hK.out _ _ ⟨(by rw [ha.out]; exact putSel_upk 10 hb_ rfl rfl rfl), Q_I, Q_HK, Q_BX⟩
          refine steps_cons ?_ ?_
          · rintro b a w' ⟨ha, Q_I, Q_HK, Q_BX⟩ hb_ hon hoff
            refine ⟨_, rfl, fun K hK => ?_⟩
            have e41 : a.tmps[41]? = some (.pointer (some ⟨KB, 0, none⟩)) := by rw [ha]; exact putSel_on (e := (10, 41, .pointer (some ⟨KB, 0, none⟩))) 10 rfl rfl (hon 10 (by kernel_rfl)) rfl
            replace ha := Aside0.mk ha
            have I := Aside0.mk Q_I
            have HK := Aside0.mk Q_HK
            have BX := Aside0.mk Q_BX
            have hc_ : w'.cell? ⟨KB, 0, none⟩ = some (.int .i64 x.at_) := (blk_cell BX.out 0).trans rfl
            refine value_ (w1 := w') (v := .int .i64 x.at_) (by rfl) rfl ?_ ?_
            · go_simp
              (try simp only [i64_w])
              try rfl
            refine hK.out _ _ ⟨(by rw [ha.out]; exact putSel_upk 11 hb_ rfl rfl rfl), Q_I, Q_HK, Q_BX⟩
          refine steps_cons ?_ ?_
          · rintro b a w' ⟨ha, Q_I, Q_HK, Q_BX⟩ hb_ hon hoff
            refine ⟨_, rfl, fun K hK => ?_⟩
            have e7 : a.tmps[7]? = some (.pointer (some ⟨KB, 0, none⟩)) := by rw [ha]; exact (putSel_off rfl).trans rfl
            replace ha := Aside0.mk ha
            have I := Aside0.mk Q_I
            have HK := Aside0.mk Q_HK
            have BX := Aside0.mk Q_BX
            refine value_ (w1 := w') (v := .pointer (some ⟨KB, 1, none⟩)) (by rfl) rfl ?_ ?_
            · go_simp
              (try simp only [i64_w])
              try rfl
            refine hK.out _ _ ⟨(by rw [ha.out]; exact putSel_upk 12 hb_ rfl rfl rfl), Q_I, Q_HK, Q_BX⟩
          refine steps_cons ?_ ?_
          · rintro b a w' ⟨ha, Q_I, Q_HK, Q_BX⟩ hb_ hon hoff
            refine ⟨_, rfl, fun K hK => ?_⟩
            have e43 : a.tmps[43]? = some (.pointer (some ⟨KB, 1, none⟩)) := by rw [ha]; exact putSel_on (e := (12, 43, .pointer (some ⟨KB, 1, none⟩))) 12 rfl rfl (hon 12 (by kernel_rfl)) rfl
            replace ha := Aside0.mk ha
            have I := Aside0.mk Q_I
            have HK := Aside0.mk Q_HK
            have BX := Aside0.mk Q_BX
            have hc_ : w'.cell? ⟨KB, 1, none⟩ = some (.slice x.s.a x.s.b.length x.s.c) := (blk_cell BX.out 1).trans rfl
            refine value_ (w1 := w') (v := .slice x.s.a x.s.b.length x.s.c) (by rfl) rfl ?_ ?_
            · go_simp
              (try simp only [i64_w])
              try rfl
            refine hK.out _ _ ⟨(by rw [ha.out]; exact putSel_upk 13 hb_ rfl rfl rfl), Q_I, Q_HK, Q_BX⟩
          refine steps_cons ?_ ?_
          · rintro b a w' ⟨ha, Q_I, Q_HK, Q_BX⟩ hb_ hon hoff
            refine ⟨_, rfl, fun K hK => ?_⟩
            have e34 : a.tmps[34]? = some (.slice (some ⟨gs, 0, none⟩) ns cs) := by rw [ha]; exact putSel_on (e := (3, 34, .slice (some ⟨gs, 0, none⟩) ns cs)) 3 rfl rfl (hon 3 (by kernel_rfl)) rfl
            have e36 : a.tmps[36]? = some (.int .i64 x.at_) := by rw [ha]; exact putSel_on (e := (5, 36, .int .i64 x.at_)) 5 rfl rfl (hon 5 (by kernel_rfl)) rfl
            replace ha := Aside0.mk ha
            have I := Aside0.mk Q_I
            have HK := Aside0.mk Q_HK
            have BX := Aside0.mk Q_BX
            obtain ⟨hz1_, hz2_⟩ := Kd.R_celln (enc := Sec.v) (h1 := fun _ => rfl) Sec.nil (show kSec.R _ w' base _ (.slice (some ⟨gs, 0, none⟩) ns cs) _ from I.out.safe) x.at_ hat.out hqs.out
            refine value_ (w1 := w') (v := .pointer (some ⟨gs, x.at_.toNat, none⟩)) (by rfl) rfl ?_ ?_
            · go_simp
              (try simp only [i64_w])
              try rfl
            refine hK.out _ _ ⟨(by rw [ha.out]; exact putSel_upk 14 hb_ rfl rfl rfl), Q_I, Q_HK, Q_BX⟩
          refine steps_cons ?_ ?_
          · rintro b a w' ⟨ha, Q_I, Q_HK, Q_BX⟩ hb_ hon hoff
            refine ⟨_, rfl, fun K hK => ?_⟩
            have e45 : a.tmps[45]? = some (.pointer (some ⟨gs, x.at_.toNat, none⟩)) := by rw [ha]; exact putSel_on (e := (14, 45, .pointer (some ⟨gs, x.at_.toNat, none⟩))) 14 rfl rfl (hon 14 (by kernel_rfl)) rfl
            have e44 : a.tmps[44]? = some (.slice x.s.a x.s.b.length x.s.c) := by rw [ha]; exact putSel_on (e := (13, 44, .slice x.s.a x.s.b.length x.s.c)) 13 rfl rfl (hon 13 (by kernel_rfl)) rfl
            replace ha := Aside0.mk ha
            have I := Aside0.mk Q_I
            have HK := Aside0.mk Q_HK
            have BX := Aside0.mk Q_BX
            obtain ⟨hz1_, hz2_⟩ := Kd.R_celln (enc := Sec.v) (h1 := fun _ => rfl) Sec.nil (show kSec.R _ w' base _ (.slice (some ⟨gs, 0, none⟩) ns cs) _ from I.out.safe) x.at_ hat.out hqs.out
            refine skip_ (w1 := w'.setCell ⟨gs, x.at_.toNat, none⟩ (.slice x.s.a x.s.b.length x.s.c)) (by rfl) rfl ?_ ?_
            · unfold Sec.v at hz1_
              go_simp
              try rfl
            refine hK.out _ _ ⟨(by rw [ha.out]; exact putSel_none (v := undef) rfl), (mids_safe (by have h_ := I.out; rw [hb_] at h_; exact h_) rfl hmem.out), (HK.out.setCell (.inl sgs.out) _), (blk_far BX.out (p := ⟨gs, x.at_.toNat, none⟩) (fun h_ => absurd (hbd.out gs sgs.out) (by rw [h_]; exact Nat.lt_irrefl _)) _)⟩
          refine steps_cons ?_ ?_
          · rintro b a w' ⟨ha, Q_I, Q_HK, Q_BX⟩ hb_ hon hoff
            refine ⟨_, rfl, fun K hK => ?_⟩
            have e40 : a.tmps[40]? = some (.slice (some ⟨gb, 0, none⟩) nb cb) := by rw [ha]; exact putSel_on (e := (9, 40, .slice (some ⟨gb, 0, none⟩) nb cb)) 9 rfl rfl (hon 9 (by kernel_rfl)) rfl
            have e42 : a.tmps[42]? = some (.int .i64 x.at_) := by rw [ha]; exact putSel_on (e := (11, 42, .int .i64 x.at_)) 11 rfl rfl (hon 11 (by kernel_rfl)) rfl
            replace ha := Aside0.mk ha
            have I := Aside0.mk Q_I
            have HK := Aside0.mk Q_HK
            have BX := Aside0.mk Q_BX
            obtain ⟨hz1_, hz2_⟩ := Kd.R_celln (enc := Value.bool) (h1 := fun _ => rfl) false (show Kd.bool.R _ w' base _ (.slice (some ⟨gb, 0, none⟩) nb cb) _ from I.out.bad) x.at_ hat.out hqb.out
            refine value_ (w1 := w') (v := .pointer (some ⟨gb, x.at_.toNat, none⟩)) (by rfl) rfl ?_ ?_
            · go_simp
              (try simp only [i64_w])
              try rfl
            refine hK.out _ _ ⟨(by rw [ha.out]; exact putSel_upk 15 hb_ rfl rfl rfl), Q_I, Q_HK, Q_BX⟩
          refine steps_cons ?_ ?_
          · rintro b a w' ⟨ha, Q_I, Q_HK, Q_BX⟩ hb_ hon hoff
            refine ⟨_, rfl, fun K hK => ?_⟩
            have e46 : a.tmps[46]? = some (.pointer (some ⟨gb, x.at_.toNat, none⟩)) := by rw [ha]; exact putSel_on (e := (16, 46, .pointer (some ⟨gb, x.at_.toNat, none⟩))) 15 rfl rfl (hon 16 (by kernel_rfl)) rfl
            replace ha := Aside0.mk ha
            have I := Aside0.mk Q_I
            have HK := Aside0.mk Q_HK
            have BX := Aside0.mk Q_BX
            obtain ⟨hz1_, hz2_⟩ := Kd.R_celln (enc := Value.bool) (h1 := fun _ => rfl) false (show Kd.bool.R _ w' base _ (.slice (some ⟨gb, 0, none⟩) nb cb) _ from I.out.bad) x.at_ hat.out hqb.out
            refine skip_ (w1 := w'.setCell ⟨gb, x.at_.toNat, none⟩ (.bool false)) (by rfl) rfl ?_ ?_
            · go_simp
              try rfl
            refine hK.out _ _ ⟨(by rw [ha.out]; exact putSel_none (v := undef) rfl), (mids_bad (by have h_ := I.out; rw [hb_] at h_; exact h_) rfl), (HK.out.setCell (.inl sgb.out) _), (blk_far BX.out (p := ⟨gb, x.at_.toNat, none⟩) (fun h_ => absurd (hbd.out gb sgb.out) (by rw [h_]; exact Nat.lt_irrefl _)) _)⟩
          exact steps_nil
        rintro b a w' hall ⟨ha, Q_I, Q_HK, Q_BX⟩
        clear BX HK I
        have hb0_ := hall 0 (by kernel_rfl)
        have hb1_ := hall 1 (by kernel_rfl)
        have hb2_ := hall 2 (by kernel_rfl)
        have hb3_ := hall 3 (by kernel_rfl)
        have hb4_ := hall 4 (by kernel_rfl)
        have hb5_ := hall 5 (by kernel_rfl)
        have hb6_ := hall 6 (by kernel_rfl)
        have hb7_ := hall 7 (by kernel_rfl)
        have hb8_ := hall 8 (by kernel_rfl)
        have hb9_ := hall 9 (by kernel_rfl)
        have hb10_ := hall 10 (by kernel_rfl)
        have hb11_ := hall 11 (by kernel_rfl)
        have hb12_ := hall 12 (by kernel_rfl)
        have hb13_ := hall 13 (by kernel_rfl)
        have hb14_ := hall 14 (by kernel_rfl)
        have hb15_ := hall 15 (by kernel_rfl)
        have hb16_ := hall 16 (by kernel_rfl)
        have hb17_ := hall 17 (by kernel_rfl)
        subst ha
        simp only [putSel, hb0_, hb1_, hb2_, hb3_, hb4_, hb5_, hb6_, hb7_, hb8_, hb9_, hb10_, hb11_, hb12_, hb13_, hb14_, hb15_, hb16_, hb17_, if_true, Act.put, List.setIfInBounds_toArray, List.set_cons_zero, List.set_cons_succ]
        have I := Aside0.mk Q_I
        clear Q_I
        have HK := Aside0.mk Q_HK
        clear Q_HK
        have BX := Aside0.mk Q_BX
        clear Q_BX
        replace I := I.out
        rw [hb15_, hb17_] at I
        replace I := Aside0.mk I
        clear hall hb0_ hb1_ hb2_ hb3_ hb4_ hb5_ hb6_ hb7_ hb8_ hb9_ hb10_ hb11_ hb12_ hb13_ hb14_ hb15_ hb16_ hb17_
        have hfin := Aside0.mk (show IsD w' base g S (onK keep tear D (k + 1)) _ by rw [HON.out]; unfold onP; rw [if_pos HKB.out.symm]; exact I.out)
        clear I BX HD2 HX hmem hat hqs hqb sgs sgb hbd hbw hmem0
        go_wp2
        go_roundw
        case rel => exact ⟨k + 1, hlt, by go_num, ⟨hfin.out, HK.out⟩⟩
        case measure => simp [intOf]; omega
      | false =>
        have alt : (∃ ad, kA = some ad ∧ k < keep.length ∧ decide (k < keep.length) = true ∧ wa.cell? (ad.add k) = some (.bool false)) ∨ decide (k < keep.length) = false := by
          rcases Nat.lt_or_ge k keep.length with hkl | hkl
          · obtain ⟨ad, hA, hcell⟩ := Kd.at_bool hC.out (k : Int) (by omega) (by omega)
            refine .inl ⟨ad, hA, hkl, decide_eq_true hkl, ?_⟩
            have h_ := hcell
            rw [show rdOf false keep (k : Int) = false by unfold rdOf; rw [Int.toNat_natCast]; exact hkb.symm] at h_
            simpa using h_
          · exact .inr (decide_eq_false (by omega))
        clear hkb hC HC
        by_cases ht : (k : Int) = tear
        · have tb : ((k : Int) == tear) = true := by simpa using ht
          have HT := Aside0.mk ht
          replace I : Aside0 (IsD wa base g S (midT D2 x false) _) := I
          clear ht
          rcases alt with ⟨ad, rfl, hkl, tk, hcell⟩ | tk
          all_goals
            go_upto_region 7 with fail
            refine start_ (n := 8) (S := fun w' => True) (ds := []) #[false, false, false, false, false, false, false, false] (by kernel_rfl) rfl rfl trivial (fun hHeld => ?_)
            refine with_tabW dkon7.tab7 dkon7.bits7 (fun HT_ HW_ => ?_)
            have n0_ := Aside0.mk (I.out.below (below_drew (Below.refl _ _)))
            have n1_ := Aside0.mk (HK.out.drew)
            have n2_ := Aside0.mk (blk_drew BX.out)
            clear I HK BX
            generalize World.drew _ = wd at n0_ n1_ n2_ hHeld ⊢
            have I := n0_
            have HK := n1_
            have BX := n2_
            clear hHeld n0_ n1_ n2_
            refine inv_at [0, 1, 2, 3, 4, 5, 6, 7] (fun a0_ b a w' => a = putSel a0_ b [(0, 51, .pointer (some ⟨g, 0, none⟩)), (1, 52, .pointer (some ⟨g, 0, none⟩)), (2, 53, .pointer (some ⟨g, 3, none⟩)), (3, 54, .slice (some ⟨gb, 0, none⟩) nb cb), (4, 55, .pointer (some ⟨KB, 0, none⟩)), (5, 56, .int .i64 x.at_), (6, 57, .pointer (some ⟨gb, x.at_.toNat, none⟩))] ∧ (IsD w' base g S (midT D2 x (b 7)) ⟨vn, vt, .slice (some ⟨gs, 0, none⟩) ns cs, .slice (some ⟨gb, 0, none⟩) nb cb, vw⟩) ∧ (Kept w w' S) ∧ (w'.heap[KB]? = some (.cells #[.int .i64 x.at_, .slice x.s.a x.s.b.length x.s.c] 87 (0, 0)))) HT_.out HW_.out (by kernel_rfl) (by kernel_rfl) ?_ ?_ ?_
            · exact ⟨by simp only [putSel, Bool.false_eq_true, if_false], I.out, HK.out, BX.out⟩
            · skip
              clear BX HK I
              refine steps_cons ?_ ?_
              · rintro b a w' ⟨ha, Q_I, Q_HK, Q_BX⟩ hb_ hon hoff
                refine ⟨_, rfl, fun K hK => ?_⟩
                have e0 : a.tmps[0]? = some (.pointer (some ⟨g, 0, none⟩)) := by rw [ha]; exact (putSel_off rfl).trans rfl
                replace ha := Aside0.mk ha
                have I := Aside0.mk Q_I
                have HK := Aside0.mk Q_HK
                have BX := Aside0.mk Q_BX
                refine value_ (w1 := w') (v := .pointer (some ⟨g, 0, none⟩)) (by rfl) rfl ?_ ?_
                · go_simp
                  (try simp only [i64_w])
                  try rfl
                refine hK.out _ _ ⟨(by rw [ha.out]; exact putSel_upk 0 hb_ rfl rfl rfl), Q_I, Q_HK, Q_BX⟩
              refine steps_cons ?_ ?_
              · rintro b a w' ⟨ha, Q_I, Q_HK, Q_BX⟩ hb_ hon hoff
                refine ⟨_, rfl, fun K hK => ?_⟩
                have e51 : a.tmps[51]? = some (.pointer (some ⟨g, 0, none⟩)) := by rw [ha]; exact putSel_on (e := (0, 51, .pointer (some ⟨g, 0, none⟩))) 0 rfl rfl (hon 0 (by kernel_rfl)) rfl
                replace ha := Aside0.mk ha
                have I := Aside0.mk Q_I
                have HK := Aside0.mk Q_HK
                have BX := Aside0.mk Q_BX
                refine value_ (w1 := w') (v := .pointer (some ⟨g, 0, none⟩)) (by rfl) rfl ?_ ?_
                · go_simp
                  (try simp only [i64_w])
                  try rfl
                refine hK.out _ _ ⟨(by rw [ha.out]; exact putSel_upk 1 hb_ rfl rfl rfl), Q_I, Q_HK, Q_BX⟩
              refine steps_cons ?_ ?_
              · rintro b a w' ⟨ha, Q_I, Q_HK, Q_BX⟩ hb_ hon hoff
                refine ⟨_, rfl, fun K hK => ?_⟩
                have e52 : a.tmps[52]? = some (.pointer (some ⟨g, 0, none⟩)) := by rw [ha]; exact putSel_on (e := (1, 52, .pointer (some ⟨g, 0, none⟩))) 1 rfl rfl (hon 1 (by kernel_rfl)) rfl
                replace ha := Aside0.mk ha
                have I := Aside0.mk Q_I
                have HK := Aside0.mk Q_HK
                have BX := Aside0.mk Q_BX
                refine value_ (w1 := w') (v := .pointer (some ⟨g, 3, none⟩)) (by rfl) rfl ?_ ?_
                · go_simp
                  (try simp only [i64_w])
                  try rfl
                refine hK.out _ _ ⟨(by rw [ha.out]; exact putSel_upk 2 hb_ rfl rfl rfl), Q_I, Q_HK, Q_BX⟩
              refine steps_cons ?_ ?_
              · rintro b a w' ⟨ha, Q_I, Q_HK, Q_BX⟩ hb_ hon hoff
                refine ⟨_, rfl, fun K hK => ?_⟩
                have e53 : a.tmps[53]? = some (.pointer (some ⟨g, 3, none⟩)) := by rw [ha]; exact putSel_on (e := (2, 53, .pointer (some ⟨g, 3, none⟩))) 2 rfl rfl (hon 2 (by kernel_rfl)) rfl
                replace ha := Aside0.mk ha
                have I := Aside0.mk Q_I
                have HK := Aside0.mk Q_HK
                have BX := Aside0.mk Q_BX
                have hc_ : w'.cell? ⟨g, 3, none⟩ = some (.slice (some ⟨gb, 0, none⟩) nb cb) := (blk_cell I.out.blk 3).trans rfl
                refine value_ (w1 := w') (v := .slice (some ⟨gb, 0, none⟩) nb cb) (by rfl) rfl ?_ ?_
                · go_simp
                  (try simp only [i64_w])
                  try rfl
                refine hK.out _ _ ⟨(by rw [ha.out]; exact putSel_upk 3 hb_ rfl rfl rfl), Q_I, Q_HK, Q_BX⟩
              refine steps_cons ?_ ?_
              · rintro b a w' ⟨ha, Q_I, Q_HK, Q_BX⟩ hb_ hon hoff
                refine ⟨_, rfl, fun K hK => ?_⟩
                have e7 : a.tmps[7]? = some (.pointer (some ⟨KB, 0, none⟩)) := by rw [ha]; exact (putSel_off rfl).trans rfl
                replace ha := Aside0.mk ha
                have I := Aside0.mk Q_I
                have HK := Aside0.mk Q_HK
                have BX := Aside0.mk Q_BX
                refine value_ (w1 := w') (v := .pointer (some ⟨KB, 0, none⟩)) (by rfl) rfl ?_ ?_
                · go_simp
                  (try simp only [i64_w])
                  try rfl
                refine hK.out _ _ ⟨(by rw [ha.out]; exact putSel_upk 4 hb_ rfl rfl rfl), Q_I, Q_HK, Q_BX⟩
              refine steps_cons ?_ ?_
              · rintro b a w' ⟨ha, Q_I, Q_HK, Q_BX⟩ hb_ hon hoff
                refine ⟨_, rfl, fun K hK => ?_⟩
                have e55 : a.tmps[55]? = some (.pointer (some ⟨KB, 0, none⟩)) := by rw [ha]; exact putSel_on (e := (4, 55, .pointer (some ⟨KB, 0, none⟩))) 4 rfl rfl (hon 4 (by kernel_rfl)) rfl
                replace ha := Aside0.mk ha
                have I := Aside0.mk Q_I
                have HK := Aside0.mk Q_HK
                have BX := Aside0.mk Q_BX
                have hc_ : w'.cell? ⟨KB, 0, none⟩ = some (.int .i64 x.at_) := (blk_cell BX.out 0).trans rfl
                refine value_ (w1 := w') (v := .int .i64 x.at_) (by rfl) rfl ?_ ?_
                · go_simp
                  (try simp only [i64_w])
                  try rfl
                refine hK.out _ _ ⟨(by rw [ha.out]; exact putSel_upk 5 hb_ rfl rfl rfl), Q_I, Q_HK, Q_BX⟩
              refine steps_cons ?_ ?_
              · rintro b a w' ⟨ha, Q_I, Q_HK, Q_BX⟩ hb_ hon hoff
                refine ⟨_, rfl, fun K hK => ?_⟩
                have e54 : a.tmps[54]? = some (.slice (some ⟨gb, 0, none⟩) nb cb) := by rw [ha]; exact putSel_on (e := (3, 54, .slice (some ⟨gb, 0, none⟩) nb cb)) 3 rfl rfl (hon 3 (by kernel_rfl)) rfl
                have e56 : a.tmps[56]? = some (.int .i64 x.at_) := by rw [ha]; exact putSel_on (e := (5, 56, .int .i64 x.at_)) 5 rfl rfl (hon 5 (by kernel_rfl)) rfl
                replace ha := Aside0.mk ha
                have I := Aside0.mk Q_I
                have HK := Aside0.mk Q_HK
                have BX := Aside0.mk Q_BX
                obtain ⟨hz1_, hz2_⟩ := Kd.R_celln (enc := Value.bool) (h1 := fun _ => rfl) false (show Kd.bool.R _ w' base _ (.slice (some ⟨gb, 0, none⟩) nb cb) _ from I.out.bad) x.at_ hat.out hqb.out
                refine value_ (w1 := w') (v := .pointer (some ⟨gb, x.at_.toNat, none⟩)) (by rfl) rfl ?_ ?_
                · go_simp
                  (try simp only [i64_w])
                  try rfl
                refine hK.out _ _ ⟨(by rw [ha.out]; exact putSel_upk 6 hb_ rfl rfl rfl), Q_I, Q_HK, Q_BX⟩
              refine steps_cons ?_ ?_
              · rintro b a w' ⟨ha, Q_I, Q_HK, Q_BX⟩ hb_ hon hoff
                refine ⟨_, rfl, fun K hK => ?_⟩
                have e57 : a.tmps[57]? = some (.pointer (some ⟨gb, x.at_.toNat, none⟩)) := by rw [ha]; exact putSel_on (e := (6, 57, .pointer (some ⟨gb, x.at_.toNat, none⟩))) 6 rfl rfl (hon 6 (by kernel_rfl)) rfl
                replace ha := Aside0.mk ha
                have I := Aside0.mk Q_I
                have HK := Aside0.mk Q_HK
                have BX := Aside0.mk Q_BX
                obtain ⟨hz1_, hz2_⟩ := Kd.R_celln (enc := Value.bool) (h1 := fun _ => rfl) false (show Kd.bool.R _ w' base _ (.slice (some ⟨gb, 0, none⟩) nb cb) _ from I.out.bad) x.at_ hat.out hqb.out
                refine skip_ (w1 := w'.setCell ⟨gb, x.at_.toNat, none⟩ (.bool true)) (by rfl) rfl ?_ ?_
                · go_simp
                  try rfl
                refine hK.out _ _ ⟨(by rw [ha.out]; exact putSel_none (v := undef) rfl), (midt_bad (by have h_ := I.out; rw [hb_] at h_; exact h_) rfl), (HK.out.setCell (.inl sgb.out) _), (blk_far BX.out (p := ⟨gb, x.at_.toNat, none⟩) (fun h_ => absurd (hbd.out gb sgb.out) (by rw [h_]; exact Nat.lt_irrefl _)) _)⟩
              exact steps_nil
            rintro b a w' hall ⟨ha, Q_I, Q_HK, Q_BX⟩
            clear BX HK I
            have hb0_ := hall 0 (by kernel_rfl)
            have hb1_ := hall 1 (by kernel_rfl)
            have hb2_ := hall 2 (by kernel_rfl)
            have hb3_ := hall 3 (by kernel_rfl)
            have hb4_ := hall 4 (by kernel_rfl)
            have hb5_ := hall 5 (by kernel_rfl)
            have hb6_ := hall 6 (by kernel_rfl)
            have hb7_ := hall 7 (by kernel_rfl)
            subst ha
            simp only [putSel, hb0_, hb1_, hb2_, hb3_, hb4_, hb5_, hb6_, hb7_, if_true, Act.put, List.setIfInBounds_toArray, List.set_cons_zero, List.set_cons_succ]
            have I := Aside0.mk Q_I
            clear Q_I
            have HK := Aside0.mk Q_HK
            clear Q_HK
            have BX := Aside0.mk Q_BX
            clear Q_BX
            replace I := I.out
            rw [hb7_] at I
            replace I := Aside0.mk I
            clear hall hb0_ hb1_ hb2_ hb3_ hb4_ hb5_ hb6_ hb7_
            have hfin := Aside0.mk (show IsD w' base g S (onK keep tear D (k + 1)) _ by rw [HON.out]; unfold onP; rw [← HKB.out, if_neg (by decide), if_pos HT.out]; exact I.out)
            clear I BX HD2 HX hmem hat hqs hqb sgs sgb hbd hbw hmem0
            go_wp2
            go_roundw
            case rel => exact ⟨k + 1, hlt, by go_num, ⟨hfin.out, HK.out⟩⟩
            case measure => simp [intOf]; omega
        · have tb : ((k : Int) == tear) = false := by simpa using ht
          have hfin := Aside0.mk (show IsD wa base g S (onK keep tear D (k + 1)) _ by rw [HON.out]; unfold onP; rw [← HKB.out, if_neg (by decide), if_neg ht]; exact I.out)
          clear ht I BX HD2 HX hmem hat hqs hqb sgs sgb hbd hbw hmem0
          rcases alt with ⟨ad, rfl, hkl, tk, hcell⟩ | tk
          all_goals
            go_wp2
            go_roundw
            case rel => exact ⟨k + 1, hlt, by go_num, ⟨hfin.out, HK.out⟩⟩
            case measure => simp [intOf]; omega
    · obtain rfl : k = D.wait.length := by omega
      obtain ⟨D3, hD3⟩ : ∃ d, d = onK keep tear D D.wait.length := ⟨_, rfl⟩
      have hI := hR.out.1
      have HK := Aside0.mk hR.out.2
      rw [← hD3] at hI
      have HD3 := Aside0.mk hD3
      obtain ⟨vn, vt, vs, vb, vw⟩ := r
      obtain ⟨As, cs, hvs, _⟩ := row_len hI.safe
      replace hvs : vs = .slice As D3.safe.length cs := hvs
      subst hvs
      have hvn := Aside0.mk (show ∀ k, vn.ownBlock = some k → S k from fun k hk => (hI.now.1 k hk).1)
      have hvt := Aside0.mk (show ∀ k, vt.ownBlock = some k → S k from fun k hk => (hI.torn.1 k hk).1)
      have sg := Aside0.mk hI.sg
      have I := Aside0.mk hI
      replace I : Aside0 (IsD wr base g S (cpN D3 false) _) := I
      clear hR c4 HI hI hD3
      go_upto_region 9 with fail
      refine start_ (n := 9) (S := fun w' => True) (ds := []) #[false, false, false, false, false, false, false, false, false] (by kernel_rfl) rfl rfl trivial (fun hHeld => ?_)
      refine with_tabW dkon9.tab9 dkon9.bits9 (fun HT_ HW_ => ?_)
      have n0_ := Aside0.mk (I.out.below (below_drew (Below.refl _ _)))
      have n1_ := Aside0.mk (HK.out.drew)
      clear I HK
      generalize World.drew _ = wd at n0_ n1_ hHeld ⊢
      have I := n0_
      have HK := n1_
      clear hHeld n0_ n1_
      refine inv_at [0, 1, 2, 3, 4, 5, 6, 7, 8] (fun a0_ b a w' => a = putSel a0_ b [(0, 59, .pointer (some ⟨g, 0, none⟩)), (1, 60, .pointer (some ⟨g, 0, none⟩)), (2, 61, .pointer (some ⟨g, 0, none⟩)), (3, 62, vn), (4, 63, .pointer (some ⟨g, 0, none⟩)), (5, 64, .pointer (some ⟨g, 0, none⟩)), (6, 65, .pointer (some ⟨g, 2, none⟩)), (7, 66, .slice As D3.safe.length cs), (8, 67, .int .i64 (D3.safe.length : Int))] ∧ (IsD w' base g S (cpN D3 (b 8)) ⟨vn, vt, .slice As D3.safe.length cs, vb, vw⟩) ∧ (Kept w w' S)) HT_.out HW_.out (by kernel_rfl) (by kernel_rfl) ?_ ?_ ?_
      · exact ⟨by simp only [putSel, Bool.false_eq_true, if_false], I.out, HK.out⟩
      · skip
        clear HK I
        refine steps_cons ?_ ?_
        · rintro b a w' ⟨ha, Q_I, Q_HK⟩ hb_ hon hoff
          refine ⟨_, rfl, fun K hK => ?_⟩
          have e0 : a.tmps[0]? = some (.pointer (some ⟨g, 0, none⟩)) := by rw [ha]; exact (putSel_off rfl).trans rfl
          replace ha := Aside0.mk ha
          have I := Aside0.mk Q_I
          have HK := Aside0.mk Q_HK
          refine value_ (w1 := w') (v := .pointer (some ⟨g, 0, none⟩)) (by rfl) rfl ?_ ?_
          · go_simp
            (try simp only [i64_w])
            try rfl
          refine hK.out _ _ ⟨(by rw [ha.out]; exact putSel_upk 0 hb_ rfl rfl rfl), Q_I, Q_HK⟩
        refine steps_cons ?_ ?_
        · rintro b a w' ⟨ha, Q_I, Q_HK⟩ hb_ hon hoff
          refine ⟨_, rfl, fun K hK => ?_⟩
          have e59 : a.tmps[59]? = some (.pointer (some ⟨g, 0, none⟩)) := by rw [ha]; exact putSel_on (e := (0, 59, .pointer (some ⟨g, 0, none⟩))) 0 rfl rfl (hon 0 (by kernel_rfl)) rfl
          replace ha := Aside0.mk ha
          have I := Aside0.mk Q_I
          have HK := Aside0.mk Q_HK
          refine value_ (w1 := w') (v := .pointer (some ⟨g, 0, none⟩)) (by rfl) rfl ?_ ?_
          · go_simp
            (try simp only [i64_w])
            try rfl
          refine hK.out _ _ ⟨(by rw [ha.out]; exact putSel_upk 1 hb_ rfl rfl rfl), Q_I, Q_HK⟩
        refine steps_cons ?_ ?_
        · rintro b a w' ⟨ha, Q_I, Q_HK⟩ hb_ hon hoff
          refine ⟨_, rfl, fun K hK => ?_⟩
          have e60 : a.tmps[60]? = some (.pointer (some ⟨g, 0, none⟩)) := by rw [ha]; exact putSel_on (e := (1, 60, .pointer (some ⟨g, 0, none⟩))) 1 rfl rfl (hon 1 (by kernel_rfl)) rfl
          replace ha := Aside0.mk ha
          have I := Aside0.mk Q_I
          have HK := Aside0.mk Q_HK
          refine value_ (w1 := w') (v := .pointer (some ⟨g, 0, none⟩)) (by rfl) rfl ?_ ?_
          · go_simp
            (try simp only [i64_w])
            try rfl
          refine hK.out _ _ ⟨(by rw [ha.out]; exact putSel_upk 2 hb_ rfl rfl rfl), Q_I, Q_HK⟩
        refine steps_cons ?_ ?_
        · rintro b a w' ⟨ha, Q_I, Q_HK⟩ hb_ hon hoff
          refine ⟨_, rfl, fun K hK => ?_⟩
          have e61 : a.tmps[61]? = some (.pointer (some ⟨g, 0, none⟩)) := by rw [ha]; exact putSel_on (e := (2, 61, .pointer (some ⟨g, 0, none⟩))) 2 rfl rfl (hon 2 (by kernel_rfl)) rfl
          replace ha := Aside0.mk ha
          have I := Aside0.mk Q_I
          have HK := Aside0.mk Q_HK
          have hc_ : w'.cell? ⟨g, 0, none⟩ = some vn := (blk_cell I.out.blk 0).trans rfl
          refine value_ (w1 := w') (v := vn) (by rfl) rfl ?_ ?_
          · go_simp
            (try simp only [i64_w])
            try rfl
          refine hK.out _ _ ⟨(by rw [ha.out]; exact putSel_upk 3 hb_ rfl rfl rfl), Q_I, Q_HK⟩
        refine steps_cons ?_ ?_
        · rintro b a w' ⟨ha, Q_I, Q_HK⟩ hb_ hon hoff
          refine ⟨_, rfl, fun K hK => ?_⟩
          have e0 : a.tmps[0]? = some (.pointer (some ⟨g, 0, none⟩)) := by rw [ha]; exact (putSel_off rfl).trans rfl
          replace ha := Aside0.mk ha
          have I := Aside0.mk Q_I
          have HK := Aside0.mk Q_HK
          refine value_ (w1 := w') (v := .pointer (some ⟨g, 0, none⟩)) (by rfl) rfl ?_ ?_
          · go_simp
            (try simp only [i64_w])
            try rfl
          refine hK.out _ _ ⟨(by rw [ha.out]; exact putSel_upk 4 hb_ rfl rfl rfl), Q_I, Q_HK⟩
        refine steps_cons ?_ ?_
        · rintro b a w' ⟨ha, Q_I, Q_HK⟩ hb_ hon hoff
          refine ⟨_, rfl, fun K hK => ?_⟩
          have e63 : a.tmps[63]? = some (.pointer (some ⟨g, 0, none⟩)) := by rw [ha]; exact putSel_on (e := (4, 63, .pointer (some ⟨g, 0, none⟩))) 4 rfl rfl (hon 4 (by kernel_rfl)) rfl
          replace ha := Aside0.mk ha
          have I := Aside0.mk Q_I
          have HK := Aside0.mk Q_HK
          refine value_ (w1 := w') (v := .pointer (some ⟨g, 0, none⟩)) (by rfl) rfl ?_ ?_
          · go_simp
            (try simp only [i64_w])
            try rfl
          refine hK.out _ _ ⟨(by rw [ha.out]; exact putSel_upk 5 hb_ rfl rfl rfl), Q_I, Q_HK⟩
        refine steps_cons ?_ ?_
        · rintro b a w' ⟨ha, Q_I, Q_HK⟩ hb_ hon hoff
          refine ⟨_, rfl, fun K hK => ?_⟩
          have e64 : a.tmps[64]? = some (.pointer (some ⟨g, 0, none⟩)) := by rw [ha]; exact putSel_on (e := (5, 64, .pointer (some ⟨g, 0, none⟩))) 5 rfl rfl (hon 5 (by kernel_rfl)) rfl
          replace ha := Aside0.mk ha
          have I := Aside0.mk Q_I
          have HK := Aside0.mk Q_HK
          refine value_ (w1 := w') (v := .pointer (some ⟨g, 2, none⟩)) (by rfl) rfl ?_ ?_
          · go_simp
            (try simp only [i64_w])
            try rfl
          refine hK.out _ _ ⟨(by rw [ha.out]; exact putSel_upk 6 hb_ rfl rfl rfl), Q_I, Q_HK⟩
        refine steps_cons ?_ ?_
        · rintro b a w' ⟨ha, Q_I, Q_HK⟩ hb_ hon hoff
          refine ⟨_, rfl, fun K hK => ?_⟩
          have e65 : a.tmps[65]? = some (.pointer (some ⟨g, 2, none⟩)) := by rw [ha]; exact putSel_on (e := (6, 65, .pointer (some ⟨g, 2, none⟩))) 6 rfl rfl (hon 6 (by kernel_rfl)) rfl
          replace ha := Aside0.mk ha
          have I := Aside0.mk Q_I
          have HK := Aside0.mk Q_HK
          have hc_ : w'.cell? ⟨g, 2, none⟩ = some (.slice As D3.safe.length cs) := (blk_cell I.out.blk 2).trans rfl
          refine value_ (w1 := w') (v := .slice As D3.safe.length cs) (by rfl) rfl ?_ ?_
          · go_simp
            (try simp only [i64_w])
            try rfl
          refine hK.out _ _ ⟨(by rw [ha.out]; exact putSel_upk 7 hb_ rfl rfl rfl), Q_I, Q_HK⟩
        refine steps_cons ?_ ?_
        · rintro b a w' ⟨ha, Q_I, Q_HK⟩ hb_ hon hoff
          refine ⟨_, rfl, fun K hK => ?_⟩
          have e62 : a.tmps[62]? = some (vn) := by rw [ha]; exact putSel_on (e := (3, 62, vn)) 3 rfl rfl (hon 3 (by kernel_rfl)) rfl
          have e66 : a.tmps[66]? = some (.slice As D3.safe.length cs) := by rw [ha]; exact putSel_on (e := (7, 66, .slice As D3.safe.length cs)) 7 rfl rfl (hon 7 (by kernel_rfl)) rfl
          replace ha := Aside0.mk ha
          have I := Aside0.mk Q_I
          have HK := Aside0.mk Q_HK
          have hI_ : IsD w' base g S D3 ⟨vn, vt, .slice As D3.safe.length cs, vb, vw⟩ := (by have h_ := I.out; rw [hb_] at h_; exact h_)
          obtain ⟨_, _, hC_⟩ := Kd.R_reads' (show kSec.R _ w' base _ (.slice As D3.safe.length cs) _ from hI_.safe)
          refine copy_step (enc := Sec.v) (h1 := fun _ => rfl) Sec.nil base (by rfl) (.tmp 62) (.tmp 66) 58 58 22 rfl Try.underlying58 (by kernel_rfl) vn D3.now D3.safe As D3.safe.length cs _ (by first | (simp only [Act.eval, Array.getD_eq_getD_getElem?, Option.getD_some, e62]; done) | (simp only [Act.eval, Array.getD_eq_getD_getElem?, Option.getD_some, e62]; rfl)) (by first | (simp only [Act.eval, Array.getD_eq_getD_getElem?, Option.getD_some, e66]; done) | (simp only [Act.eval, Array.getD_eq_getD_getElem?, Option.getD_some, e66]; rfl)) hI_.now hC_ hI_.ls ?_
          intro w1_ hR_ hg_ hz_
          refine hK.out _ _ ⟨(by rw [ha.out]; exact putSel_upk 8 hb_ rfl rfl rfl), (cpn_copy hI_ hR_ hg_), (HK.out.of_grown hg_ (fun k hk => .inl (hvn.out k hk)))⟩
        exact steps_nil
      rintro b a w' hall ⟨ha, Q_I, Q_HK⟩
      clear HK I
      have hb0_ := hall 0 (by kernel_rfl)
      have hb1_ := hall 1 (by kernel_rfl)
      have hb2_ := hall 2 (by kernel_rfl)
      have hb3_ := hall 3 (by kernel_rfl)
      have hb4_ := hall 4 (by kernel_rfl)
      have hb5_ := hall 5 (by kernel_rfl)
      have hb6_ := hall 6 (by kernel_rfl)
      have hb7_ := hall 7 (by kernel_rfl)
      have hb8_ := hall 8 (by kernel_rfl)
      subst ha
      simp only [putSel, hb0_, hb1_, hb2_, hb3_, hb4_, hb5_, hb6_, hb7_, hb8_, if_true, Act.put, List.setIfInBounds_toArray, List.set_cons_zero, List.set_cons_succ]
      have I := Aside0.mk Q_I
      clear Q_I
      have HK := Aside0.mk Q_HK
      clear Q_HK
      replace I := I.out
      rw [hb8_] at I
      replace I := Aside0.mk I
      clear hall hb0_ hb1_ hb2_ hb3_ hb4_ hb5_ hb6_ hb7_ hb8_
      obtain ⟨D4, hD4⟩ : ∃ d, d = cpN D3 true := ⟨_, rfl⟩
      replace I := I.out
      obtain ⟨vs, hvs⟩ : ∃ v, v = Value.slice As D3.safe.length cs := ⟨_, rfl⟩
      rw [← hD4, ← hvs] at I
      have HD4 := Aside0.mk hD4
      obtain ⟨Ab, cb, hvb, _⟩ := row_len I.bad
      replace hvb : vb = .slice Ab D4.bad.length cb := hvb
      subst hvb
      replace I := Aside0.mk I
      replace I : Aside0 (IsD w' base g S (cpT D4 false) _) := I
      clear hD4 hvs
      go_upto_region 10 with fail
      refine start_ (n := 9) (S := fun w' => True) (ds := []) #[false, false, false, false, false, false, false, false, false] (by kernel_rfl) rfl rfl trivial (fun hHeld => ?_)
      refine with_tabW dkon10.tab10 dkon10.bits10 (fun HT_ HW_ => ?_)
      have n0_ := Aside0.mk (I.out.below (below_drew (Below.refl _ _)))
      have n1_ := Aside0.mk (HK.out.drew)
      clear I HK
      generalize World.drew _ = wd at n0_ n1_ hHeld ⊢
      have I := n0_
      have HK := n1_
      clear hHeld n0_ n1_
      refine inv_at [0, 1, 2, 3, 4, 5, 6, 7, 8] (fun a0_ b a w' => a = putSel a0_ b [(0, 68, .pointer (some ⟨g, 0, none⟩)), (1, 69, .pointer (some ⟨g, 0, none⟩)), (2, 70, .pointer (some ⟨g, 1, none⟩)), (3, 71, vt), (4, 72, .pointer (some ⟨g, 0, none⟩)), (5, 73, .pointer (some ⟨g, 0, none⟩)), (6, 74, .pointer (some ⟨g, 3, none⟩)), (7, 75, .slice Ab D4.bad.length cb), (8, 76, .int .i64 (D4.bad.length : Int))] ∧ (IsD w' base g S (cpT D4 (b 8)) ⟨vn, vt, vs, .slice Ab D4.bad.length cb, vw⟩) ∧ (Kept w w' S)) HT_.out HW_.out (by kernel_rfl) (by kernel_rfl) ?_ ?_ ?_
      · exact ⟨by simp only [putSel, Bool.false_eq_true, if_false], I.out, HK.out⟩
      · skip
        clear HK I
        refine steps_cons ?_ ?_
        · rintro b a w' ⟨ha, Q_I, Q_HK⟩ hb_ hon hoff
          refine ⟨_, rfl, fun K hK => ?_⟩
          have e0 : a.tmps[0]? = some (.pointer (some ⟨g, 0, none⟩)) := by rw [ha]; exact (putSel_off rfl).trans rfl
          replace ha := Aside0.mk ha
          have I := Aside0.mk Q_I
          have HK := Aside0.mk Q_HK
          refine value_ (w1 := w') (v := .pointer (some ⟨g, 0, none⟩)) (by rfl) rfl ?_ ?_
          · go_simp
            (try simp only [i64_w])
            try rfl
          refine hK.out _ _ ⟨(by rw [ha.out]; exact putSel_upk 0 hb_ rfl rfl rfl), Q_I, Q_HK⟩
        refine steps_cons ?_ ?_
        · rintro b a w' ⟨ha, Q_I, Q_HK⟩ hb_ hon hoff
          refine ⟨_, rfl, fun K hK => ?_⟩
          have e68 : a.tmps[68]? = some (.pointer (some ⟨g, 0, none⟩)) := by rw [ha]; exact putSel_on (e := (0, 68, .pointer (some ⟨g, 0, none⟩))) 0 rfl rfl (hon 0 (by kernel_rfl)) rfl
          replace ha := Aside0.mk ha
          have I := Aside0.mk Q_I
          have HK := Aside0.mk Q_HK
          refine value_ (w1 := w') (v := .pointer (some ⟨g, 0, none⟩)) (by rfl) rfl ?_ ?_
          · go_simp
            (try simp only [i64_w])
            try rfl
          refine hK.out _ _ ⟨(by rw [ha.out]; exact putSel_upk 1 hb_ rfl rfl rfl), Q_I, Q_HK⟩
        refine steps_cons ?_ ?_
        · rintro b a w' ⟨ha, Q_I, Q_HK⟩ hb_ hon hoff
          refine ⟨_, rfl, fun K hK => ?_⟩
          have e69 : a.tmps[69]? = some (.pointer (some ⟨g, 0, none⟩)) := by rw [ha]; exact putSel_on (e := (1, 69, .pointer (some ⟨g, 0, none⟩))) 1 rfl rfl (hon 1 (by kernel_rfl)) rfl
          replace ha := Aside0.mk ha
          have I := Aside0.mk Q_I
          have HK := Aside0.mk Q_HK
          refine value_ (w1 := w') (v := .pointer (some ⟨g, 1, none⟩)) (by rfl) rfl ?_ ?_
          · go_simp
            (try simp only [i64_w])
            try rfl
          refine hK.out _ _ ⟨(by rw [ha.out]; exact putSel_upk 2 hb_ rfl rfl rfl), Q_I, Q_HK⟩
        refine steps_cons ?_ ?_
        · rintro b a w' ⟨ha, Q_I, Q_HK⟩ hb_ hon hoff
          refine ⟨_, rfl, fun K hK => ?_⟩
          have e70 : a.tmps[70]? = some (.pointer (some ⟨g, 1, none⟩)) := by rw [ha]; exact putSel_on (e := (2, 70, .pointer (some ⟨g, 1, none⟩))) 2 rfl rfl (hon 2 (by kernel_rfl)) rfl
          replace ha := Aside0.mk ha
          have I := Aside0.mk Q_I
          have HK := Aside0.mk Q_HK
          have hc_ : w'.cell? ⟨g, 1, none⟩ = some vt := (blk_cell I.out.blk 1).trans rfl
          refine value_ (w1 := w') (v := vt) (by rfl) rfl ?_ ?_
          · go_simp
            (try simp only [i64_w])
            try rfl
          refine hK.out _ _ ⟨(by rw [ha.out]; exact putSel_upk 3 hb_ rfl rfl rfl), Q_I, Q_HK⟩
        refine steps_cons ?_ ?_
        · rintro b a w' ⟨ha, Q_I, Q_HK⟩ hb_ hon hoff
          refine ⟨_, rfl, fun K hK => ?_⟩
          have e0 : a.tmps[0]? = some (.pointer (some ⟨g, 0, none⟩)) := by rw [ha]; exact (putSel_off rfl).trans rfl
          replace ha := Aside0.mk ha
          have I := Aside0.mk Q_I
          have HK := Aside0.mk Q_HK
          refine value_ (w1 := w') (v := .pointer (some ⟨g, 0, none⟩)) (by rfl) rfl ?_ ?_
          · go_simp
            (try simp only [i64_w])
            try rfl
          refine hK.out _ _ ⟨(by rw [ha.out]; exact putSel_upk 4 hb_ rfl rfl rfl), Q_I, Q_HK⟩
        refine steps_cons ?_ ?_
        · rintro b a w' ⟨ha, Q_I, Q_HK⟩ hb_ hon hoff
          refine ⟨_, rfl, fun K hK => ?_⟩
          have e72 : a.tmps[72]? = some (.pointer (some ⟨g, 0, none⟩)) := by rw [ha]; exact putSel_on (e := (4, 72, .pointer (some ⟨g, 0, none⟩))) 4 rfl rfl (hon 4 (by kernel_rfl)) rfl
          replace ha := Aside0.mk ha
          have I := Aside0.mk Q_I
          have HK := Aside0.mk Q_HK
          refine value_ (w1 := w') (v := .pointer (some ⟨g, 0, none⟩)) (by rfl) rfl ?_ ?_
          · go_simp
            (try simp only [i64_w])
            try rfl
          refine hK.out _ _ ⟨(by rw [ha.out]; exact putSel_upk 5 hb_ rfl rfl rfl), Q_I, Q_HK⟩
        refine steps_cons ?_ ?_
        · rintro b a w' ⟨ha, Q_I, Q_HK⟩ hb_ hon hoff
          refine ⟨_, rfl, fun K hK => ?_⟩
          have e73 : a.tmps[73]? = some (.pointer (some ⟨g, 0, none⟩)) := by rw [ha]; exact putSel_on (e := (5, 73, .pointer (some ⟨g, 0, none⟩))) 5 rfl rfl (hon 5 (by kernel_rfl)) rfl
          replace ha := Aside0.mk ha
          have I := Aside0.mk Q_I
          have HK := Aside0.mk Q_HK
          refine value_ (w1 := w') (v := .pointer (some ⟨g, 3, none⟩)) (by rfl) rfl ?_ ?_
          · go_simp
            (try simp only [i64_w])
            try rfl
          refine hK.out _ _ ⟨(by rw [ha.out]; exact putSel_upk 6 hb_ rfl rfl rfl), Q_I, Q_HK⟩
        refine steps_cons ?_ ?_
        · rintro b a w' ⟨ha, Q_I, Q_HK⟩ hb_ hon hoff
          refine ⟨_, rfl, fun K hK => ?_⟩
          have e74 : a.tmps[74]? = some (.pointer (some ⟨g, 3, none⟩)) := by rw [ha]; exact putSel_on (e := (6, 74, .pointer (some ⟨g, 3, none⟩))) 6 rfl rfl (hon 6 (by kernel_rfl)) rfl
          replace ha := Aside0.mk ha
          have I := Aside0.mk Q_I
          have HK := Aside0.mk Q_HK
          have hc_ : w'.cell? ⟨g, 3, none⟩ = some (.slice Ab D4.bad.length cb) := (blk_cell I.out.blk 3).trans rfl
          refine value_ (w1 := w') (v := .slice Ab D4.bad.length cb) (by rfl) rfl ?_ ?_
          · go_simp
            (try simp only [i64_w])
            try rfl
          refine hK.out _ _ ⟨(by rw [ha.out]; exact putSel_upk 7 hb_ rfl rfl rfl), Q_I, Q_HK⟩
        refine steps_cons ?_ ?_
        · rintro b a w' ⟨ha, Q_I, Q_HK⟩ hb_ hon hoff
          refine ⟨_, rfl, fun K hK => ?_⟩
          have e71 : a.tmps[71]? = some (vt) := by rw [ha]; exact putSel_on (e := (3, 71, vt)) 3 rfl rfl (hon 3 (by kernel_rfl)) rfl
          have e75 : a.tmps[75]? = some (.slice Ab D4.bad.length cb) := by rw [ha]; exact putSel_on (e := (7, 75, .slice Ab D4.bad.length cb)) 7 rfl rfl (hon 7 (by kernel_rfl)) rfl
          replace ha := Aside0.mk ha
          have I := Aside0.mk Q_I
          have HK := Aside0.mk Q_HK
          have hI_ : IsD w' base g S D4 ⟨vn, vt, vs, .slice Ab D4.bad.length cb, vw⟩ := (by have h_ := I.out; rw [hb_] at h_; exact h_)
          obtain ⟨_, _, hC_⟩ := Kd.R_reads' (show Kd.bool.R _ w' base _ (.slice Ab D4.bad.length cb) _ from hI_.bad)
          refine copy_step (enc := Value.bool) (h1 := fun _ => rfl) false base (by rfl) (.tmp 71) (.tmp 75) 30 30 4 rfl Try.underlying30 (by kernel_rfl) vt D4.torn D4.bad Ab D4.bad.length cb _ (by first | (simp only [Act.eval, Array.getD_eq_getD_getElem?, Option.getD_some, e71]; done) | (simp only [Act.eval, Array.getD_eq_getD_getElem?, Option.getD_some, e71]; rfl)) (by first | (simp only [Act.eval, Array.getD_eq_getD_getElem?, Option.getD_some, e75]; done) | (simp only [Act.eval, Array.getD_eq_getD_getElem?, Option.getD_some, e75]; rfl)) hI_.torn hC_ (hI_.lb.trans hI_.lt.symm) ?_
          intro w1_ hR_ hg_ hz_
          refine hK.out _ _ ⟨(by rw [ha.out]; exact putSel_upk 8 hb_ rfl rfl rfl), (cpt_copy hI_ hR_ hg_), (HK.out.of_grown hg_ (fun k hk => .inl (hvt.out k hk)))⟩
        exact steps_nil
      rintro b a w' hall ⟨ha, Q_I, Q_HK⟩
      clear HK I
      have hb0_ := hall 0 (by kernel_rfl)
      have hb1_ := hall 1 (by kernel_rfl)
      have hb2_ := hall 2 (by kernel_rfl)
      have hb3_ := hall 3 (by kernel_rfl)
      have hb4_ := hall 4 (by kernel_rfl)
      have hb5_ := hall 5 (by kernel_rfl)
      have hb6_ := hall 6 (by kernel_rfl)
      have hb7_ := hall 7 (by kernel_rfl)
      have hb8_ := hall 8 (by kernel_rfl)
      subst ha
      simp only [putSel, hb0_, hb1_, hb2_, hb3_, hb4_, hb5_, hb6_, hb7_, hb8_, if_true, Act.put, List.setIfInBounds_toArray, List.set_cons_zero, List.set_cons_succ]
      have I := Aside0.mk Q_I
      clear Q_I
      have HK := Aside0.mk Q_HK
      clear Q_HK
      replace I := I.out
      rw [hb8_] at I
      replace I := Aside0.mk I
      clear hall hb0_ hb1_ hb2_ hb3_ hb4_ hb5_ hb6_ hb7_ hb8_
      obtain ⟨D5, hD5⟩ : ∃ d, d = cpT D4 true := ⟨_, rfl⟩
      replace I := I.out
      obtain ⟨vb, hvb⟩ : ∃ v, v = Value.slice Ab D4.bad.length cb := ⟨_, rfl⟩
      rw [← hD5, ← hvb] at I
      have HD5 := Aside0.mk hD5
      obtain ⟨Aw2, cw2, hvw, _⟩ := row_len I.wait
      replace hvw : vw = .slice Aw2 D5.wait.length cw2 := hvw
      have hvww := Aside0.mk (show ∀ k, vw.ownBlock = some k → S k from fun k hk => I.wait.1 k hk)
      subst hvw
      have c4 : w'.cell? ⟨g, 4, none⟩ = some (.slice Aw2 D5.wait.length cw2) := (blk_cell I.blk 4).trans rfl
      replace I := Aside0.mk I
      clear hD5 hvb
      go_upto_region 12 with ((with_reducible refine gate_builtin (b := .clear) (xs := #[.tmp 80]) rfl ?_); refine R_clear (d := kWt) rfl (.tmp 80) 81 rfl _ Try.underlying81 zeroW rfl (by decide) (by decide) rfl I.out.wait ?_; intro wq hgq hzq; have HGQ := Aside0.mk (show w'.grownBy wq (Value.slice Aw2 D5.wait.length cw2).ownBlock from hgq); have HZQ := Aside0.mk hzq; clear hgq hzq)
      obtain ⟨vw, hvw0⟩ : ∃ v, v = Value.slice Aw2 D5.wait.length cw2 := ⟨_, rfl⟩
      obtain ⟨fu, hfu⟩ : ∃ v, v = D5.fuse := ⟨_, rfl⟩
      obtain ⟨dn, hdn⟩ : ∃ v, v = D5.down := ⟨_, rfl⟩
      obtain ⟨wk, hwk⟩ : ∃ v, v = D5.work := ⟨_, rfl⟩
      obtain ⟨hb0, hn0⟩ := near_clear I.out HGQ.out HZQ.out
      have HK0 := Aside0.mk (Kept.of_grown HGQ.out HK.out (fun k hk => .inl (hvww.out k hk)))
      obtain ⟨DF, hDF⟩ : ∃ d : DkS, d = { D5 with wait := [], fuse := 0, down := false } := ⟨_, rfl⟩
      obtain ⟨RF, hRF⟩ : ∃ d : Rws, d = ⟨vn, vt, vs, vb, .slice none 0 0⟩ := ⟨_, rfl⟩
      rw [← hvw0, ← hfu, ← hdn, ← hwk] at hb0
      replace hn0 : NearD wq base g S { D5 with wait := [], fuse := 0, down := false } ⟨vn, vt, vs, vb, .slice none 0 0⟩ := hn0
      rw [← hDF, ← hRF] at hn0
      clear HK I c4 HGQ HZQ
      have HK := HK0
      have BG := Aside0.mk hb0
      have FR := Aside0.mk hn0
      have c4 : wq.cell? ⟨g, 4, none⟩ = some (.slice Aw2 D5.wait.length cw2) := (blk_cell BG.out 4).trans (by rw [hvw0]; rfl)
      have c5 : wq.cell? ⟨g, 5, none⟩ = some (.int .i64 fu) := (blk_cell BG.out 5).trans rfl
      have c6 : wq.cell? ⟨g, 6, none⟩ = some (.bool dn) := (blk_cell BG.out 6).trans rfl
      have f4 : wq.frozen? ⟨g, 4, none⟩ = false := blk_frozen BG.out 4
      have f5 : wq.frozen? ⟨g, 5, none⟩ = false := blk_frozen BG.out 5
      have f6 : wq.frozen? ⟨g, 6, none⟩ = false := blk_frozen BG.out 6
      have HDF := Aside0.mk hDF
      have HRF := Aside0.mk hRF
      have HWK := Aside0.mk hwk
      clear hb0 hn0 HK0 hDF hRF hfu hdn hwk HV hvw0
      simp only [Act.put]
      go_wp2
      go_end0
      refine ⟨rfl, ⟨RF, ?_⟩, ((HK.out.setCell (p := ⟨g, 4, none⟩) (.inl sg.out) _).setCell (p := ⟨g, 5, none⟩) (.inl sg.out) _).setCell (p := ⟨g, 6, none⟩) (.inl sg.out) _⟩
      have hfin := ((FR.out.put 4 (.slice none 0 0)).put 5 (.int .i64 0)).put 6 (.bool false)
      have e : onD keep tear D = DF := by
        rw [HDF.out, HD5.out, HD4.out, HD3.out]
        rfl
      rw [e]
      refine hfin.done ?_
      rw [HRF.out, HDF.out]
      exact blk_put (blk_put (blk_put BG.out 4 _ rfl) 5 _ rfl) 6 _ (by rw [HWK.out]; rfl)
end
end Go.Proofs.Ytihmfccpgahmaaa.Dk
