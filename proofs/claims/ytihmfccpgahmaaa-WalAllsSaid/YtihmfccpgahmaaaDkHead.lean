/- The disk statements' head, walked: true. No conditions. -/
import Derived.Test.YtihmfccpgahmaaaDkA
import Derived.Lib.SlBytesConst
namespace Go.Proofs.Ytihmfccpgahmaaa.Dk
open Go Go.RowKit Go.Proofs.YtihmfccpgahmaaaW.PrintWords Go.Proofs.YtihmfccpgahmaaaW.PrintMore Go.Proofs.YtihmfccpgahmaaaW.PrintLast
set_option linter.unusedVariables false
set_option linter.unusedSimpArgs false

/-- A literal row reads as its elements. -/
theorem lit_C {α : Type} {enc : α → Value} {h1 : ∀ x, (enc x).oneCell' = true} (d : α) {w : World} {k e : Nat} {cs : Array Value} {fr : Nat × Nat} (l : List α) (hb : w.heap[k]? = some (.cells cs e fr)) (hcs : cs = (l.map enc).toArray) (hl : l.length ≤ 9223372036854775807) : (Kd.scalar enc h1).C w (some ⟨k, 0, none⟩) l.length l := by
  refine Kd.C_of_reads (d := d) ⟨rfl, hl, fun _ => ⟨_, rfl, fun j hj => ?_⟩⟩
  have e1 : (⟨k, 0, none⟩ : Addr).add j = ⟨k, j, none⟩ := by unfold Addr.add; split <;> simp_all
  rw [e1, cell_of_row w k j cs e fr hb, hcs]
  simp [List.getD_eq_getElem?_getD, List.getElem?_eq_getElem hj]
theorem lit_kept {w W : World} {S : Nat → Prop} {k : Nat} {o : Obj} (hb : w.heap[k]? = some o) (hk : Kept w W S) (hn : ¬ S k) : W.heap[k]? = some o := (hk.block k (blk_lt hb) hn).trans hb

/-- A disk in a law's walk: the law began at w0. -/
structure St (w0 w : World) (g : Nat) (S : Nat → Prop) (M : DA) : Prop where
  I : IsA w w0.heap.size g S M
  B : Below w0.heap.size w0 w
section
variable {w0 w W : World} {g : Nat} {S : Nat → Prop} {M : DA}
theorem St.below (h : St w0 w g S M) (hb : Below w.heap.size w W) : St w0 W g S M := ⟨h.I.below hb, h.B.trans (hb.mono h.B.size)⟩
theorem St.alloc (h : St w0 w g S M) (o : Obj) : St w0 (w.alloc o) g S M := h.below (below_alloc (Below.refl _ _) o)
theorem St.drew (h : St w0 w g S M) : St w0 w.drew g S M := h.below (below_drew (Below.refl _ _))
theorem St.lt (h : St w0 w g S M) : ∀ k, S k → w0.heap.size ≤ k ∧ k < w.heap.size := h.I.bound
theorem St.set (h : St w0 w g S M) {p : Addr} (hp : ¬ S p.block) (h0 : w0.heap.size ≤ p.block) (u : Value) : St w0 (w.setCell p u) g S M :=
  ⟨h.I.step (by simp [World.setCell]) (fun k hk _ => Below.heap_setCell _ _ _ _ (fun he => hp (he ▸ hk))), h.B.setCell h0 u⟩
theorem st_new (w : World) (n : Int) (hB : Below w0.heap.size w0 w) : Calls Try.prog 19 #[.int .i64 n] w fun e w' => ∃ g S, e = .returned (.pointer (some ⟨g, 0, none⟩)) ∧ St w0 w' g S (DA.new (newN n).toNat) ∧ Below w.heap.size w w' ∧ ∀ k, S k → w.heap.size ≤ k := by
  refine (new_ok n w).mono ?_
  rintro e w' ⟨g, r, he, hi, hb⟩
  refine ⟨g, (fun k => w.heap.size ≤ k ∧ k < w'.heap.size), he, ⟨⟨_, r, ?_, a_new _⟩, hB.trans (hb.mono hB.size)⟩, hb, fun k hk => hk.1⟩
  exact hi.lower hB.size
theorem st_write (h : St w0 w g S M) (i : Int) (A : Option Addr) (c : Nat) (l : List Int) (hC0 : ∀ W', Kept w W' S → Kd.C (Kd.int .u8) W' A l.length l) (hc0 : l.length ≤ c) (hw0 : M.wait.length < 1000000) :
    Calls Try.prog 20 #[.pointer (some ⟨g, 0, none⟩), .int .i64 i, .slice A l.length c] w fun e w' => e = .returned (.int .i64 (M.wrE i l.length)) ∧ ∃ S', St w0 w' g S' (M.wr i l) ∧ (∀ k, S' k → S k ∨ w.heap.size ≤ k) ∧ Kept w w' S := by
  refine (write_a h.I i A c l hC0 hc0 h.B.size hw0).mono ?_
  rintro e w' ⟨he, S', hi, hs, hk⟩
  exact ⟨he, S', ⟨hi, h.I.after hk h.B h.B.size⟩, hs, hk⟩
theorem st_sync (h : St w0 w g S M) (hw0 : M.wait.length ≤ 1000000) :
    Calls Try.prog 21 #[.pointer (some ⟨g, 0, none⟩)] w fun e w' => e = .returned (.int .i64 M.syE) ∧ St w0 w' g S M.sy ∧ Kept w w' S := by
  refine (sync_a h.I h.B.size hw0).mono ?_
  rintro e w' ⟨he, hi, hk⟩
  exact ⟨he, ⟨hi, h.I.after hk h.B h.B.size⟩, hk⟩
theorem st_on (h : St w0 w g S M) (kA : Option Addr) (kc : Nat) (keep : List Bool) (hC0 : ∀ W', Kept w W' S → Kd.C Kd.bool W' kA keep.length keep) (hkc0 : keep.length ≤ 9223372036854775807) (tear : Int) (hwn0 : M.wait.length ≤ 1000000) :
    Calls Try.prog 22 #[.pointer (some ⟨g, 0, none⟩), .slice kA keep.length kc, .int .i64 tear] w fun e w' => e = .returned (.tuple #[]) ∧ St w0 w' g S (M.on keep tear) ∧ Kept w w' S := by
  refine (on_a h.I kA kc keep hC0 hkc0 tear h.B.size hwn0).mono ?_
  rintro e w' ⟨he, hi, hk⟩
  exact ⟨he, ⟨hi, h.I.after hk h.B h.B.size⟩, hk⟩
theorem st_off (h : St w0 w g S M) : Calls Try.prog 24 #[.pointer (some ⟨g, 0, none⟩)] w fun e w' => e = .returned (.tuple #[]) ∧ St w0 w' g S M.off ∧ Kept w w' S := by
  refine (off_a h.I).mono ?_
  rintro e w' ⟨he, hi, hk⟩
  exact ⟨he, ⟨hi, h.I.after hk h.B h.B.size⟩, hk⟩
theorem st_fuse (h : St w0 w g S M) (n : Int) (hn : n ≤ 9223372036854775807) : Calls Try.prog 28 #[.pointer (some ⟨g, 0, none⟩), .int .i64 n] w fun e w' => e = .returned (.tuple #[]) ∧ St w0 w' g S (M.setFuse n) ∧ Kept w w' S := by
  refine (fuse_a h.I n hn).mono ?_
  rintro e w' ⟨he, hi, hk⟩
  exact ⟨he, ⟨hi, h.I.after hk h.B h.B.size⟩, hk⟩
theorem st_read (h : St w0 w g S M) (i : Int) : Calls Try.prog 23 #[.pointer (some ⟨g, 0, none⟩), .int .i64 i] w fun e w' => ∃ s : Sec, e = .returned (.tuple #[s.v, .int .i64 (M.rdE i)]) ∧ s.b = M.rdB i ∧ Own w' w.heap.size (fun _ => True) s ∧ Below w.heap.size w w' := read_a h.I i
end

/-- A new row is none of the disk's. -/
theorem St.new_row {w0 w : World} {g : Nat} {S : Nat → Prop} {M : DA} (h : St w0 w g S M) : ¬ S w.heap.size := fun hk => Nat.lt_irrefl _ (h.lt _ hk).2

set_option maxRecDepth 100000 in
set_option maxHeartbeats 4000000 in
theorem head_ok (w : World) : Calls Try.prog 18 #[] w fun e w' => e = .returned (.bool true) ∧ Below w.heap.size w w' := by
  have hcv := fun (w : World) (C : Array Value) (n c : Nat) => Lib.run_convert_bytes_const (P := Try.prog) w 22 5 C n c Try.underlying22 Try.underlying5
  go_enter Try.func18, Try.ntmps18
  go_wp2_with fail
  refine (st_new (w0 := w) _ _ (Below.refl _ _)).mono ?_
  rintro e w1 ⟨g, S, rfl, hi, _, _⟩
  obtain ⟨M0, hM0⟩ : ∃ M, M = DA.new (newN 3).toNat := ⟨_, rfl⟩
  rw [← hM0] at hi
  have HM0 := Aside0.mk hM0
  have HI := Aside0.mk hi
  clear hi hM0
  go_wp2_with fail
  refine (st_write (HI.out.alloc (.cells #[.int .u8 97] 5 (1, 2))) 0 _ 1 [97] (fun W' hk => lit_C (enc := Value.int .u8) 0 [97] (lit_kept (blk_new _ _) hk HI.out.new_row) rfl (by decide)) (by decide) (by rw [HM0.out]; decide)).mono ?_
  rintro e w2 ⟨he, S2, hi, _, _⟩
  obtain ⟨M1, hM1⟩ : ∃ M, M = M0.wr 0 [97] := ⟨_, rfl⟩
  rw [← hM1] at hi
  have HM1 := Aside0.mk hM1
  rw [show M0.wrE 0 ([97] : List Int).length = 0 by rw [HM0.out]; decide] at he
  subst he
  clear HI
  have HI := Aside0.mk hi
  clear hi hM1
  go_wp2_with fail
  refine (st_sync HI.out (by rw [HM1.out, HM0.out]; decide)).mono ?_
  rintro e w3 ⟨he, hi, _⟩
  obtain ⟨M2, hM2⟩ : ∃ M, M = M1.sy := ⟨_, rfl⟩
  rw [← hM2] at hi
  have HM2 := Aside0.mk hM2
  rw [show M1.syE = 0 by rw [HM1.out, HM0.out]; decide] at he
  subst he
  clear HI
  have HI := Aside0.mk hi
  clear hi hM2
  go_wp2_with fail
  refine (st_write (HI.out.alloc (.cells #[.int .u8 98] 5 (1, 2))) 0 _ 1 [98] (fun W' hk => lit_C (enc := Value.int .u8) 0 [98] (lit_kept (blk_new _ _) hk HI.out.new_row) rfl (by decide)) (by decide) (by rw [HM2.out, HM1.out, HM0.out]; decide)).mono ?_
  rintro e w4 ⟨he, S4, hi, _, _⟩
  obtain ⟨M3, hM3⟩ : ∃ M, M = M2.wr 0 [98] := ⟨_, rfl⟩
  rw [← hM3] at hi
  have HM3 := Aside0.mk hM3
  rw [show M2.wrE 0 ([98] : List Int).length = 0 by rw [HM2.out, HM1.out, HM0.out]; decide] at he
  subst he
  clear HI
  have HI := Aside0.mk hi
  clear hi hM3
  go_wp2_with fail
  refine (st_write (HI.out.alloc (.cells #[.int .u8 99] 5 (1, 2))) 1 _ 1 [99] (fun W' hk => lit_C (enc := Value.int .u8) 0 [99] (lit_kept (blk_new _ _) hk HI.out.new_row) rfl (by decide)) (by decide) (by rw [HM3.out, HM2.out, HM1.out, HM0.out]; decide)).mono ?_
  rintro e w5 ⟨he, S5, hi, _, _⟩
  obtain ⟨M4, hM4⟩ : ∃ M, M = M3.wr 1 [99] := ⟨_, rfl⟩
  rw [← hM4] at hi
  have HM4 := Aside0.mk hM4
  rw [show M3.wrE 1 ([99] : List Int).length = 0 by rw [HM3.out, HM2.out, HM1.out, HM0.out]; decide] at he
  subst he
  clear HI
  have HI := Aside0.mk hi
  clear hi hM4
  go_wp2_with fail
  refine (st_on (HI.out.alloc (.cells #[.bool false, .bool true] 4 (0, 0))) _ 2 [false, true] (fun W' hk => lit_C (enc := Value.bool) false [false, true] (lit_kept (blk_new _ _) hk HI.out.new_row) rfl (by decide)) (by decide) (0) (by rw [HM4.out, HM3.out, HM2.out, HM1.out, HM0.out]; decide)).mono ?_
  rintro e w6 ⟨rfl, hi, _⟩
  obtain ⟨M5, hM5⟩ : ∃ M, M = M4.on [false, true] (0) := ⟨_, rfl⟩
  rw [← hM5] at hi
  have HM5 := Aside0.mk hM5
  clear HI
  have HI := Aside0.mk hi
  clear hi hM5
  go_wp2_with fail
  refine (st_read HI.out 0).mono ?_
  rintro e x1 ⟨⟨A1, c1, l1⟩, he, hl, ho, hb⟩
  rw [show M5.rdE 0 = 9 by rw [HM5.out, HM4.out, HM3.out, HM2.out, HM1.out, HM0.out]; decide] at he
  subst he
  unfold Sec.v
  have HL1 := Aside0.mk (show l1 = M5.rdB 0 from hl)
  have HO1 := Aside0.mk ho
  have HQ1 := Aside0.mk hb
  have hi := HI.out.below hb
  clear HI
  have HI := Aside0.mk hi
  clear hi hl ho hb
  go_wp2_with fail
  refine (st_read HI.out 1).mono ?_
  rintro e x2 ⟨⟨A2, c2, l2⟩, he, hl, ho, hb⟩
  rw [show M5.rdE 1 = 0 by rw [HM5.out, HM4.out, HM3.out, HM2.out, HM1.out, HM0.out]; decide] at he
  subst he
  unfold Sec.v
  have HL2 := Aside0.mk (show l2 = M5.rdB 1 from hl)
  have HO2 := Aside0.mk ho
  have HQ2 := Aside0.mk hb
  have hi := HI.out.below hb
  clear HI
  have HI := Aside0.mk hi
  clear hi hl ho hb
  have e2 := HL2.out
  rw [show M5.rdB 1 = wholeF [99] by rw [HM5.out, HM4.out, HM3.out, HM2.out, HM1.out, HM0.out]; decide +kernel] at e2
  have hlen : l2.length = 512 := by rw [e2]; decide +kernel
  obtain ⟨k2, c', hv, _⟩ := Kd.R_form HO2.out (by show 0 < l2.length; rw [hlen]; decide)
  injection hv with q1 q2 q3
  have hR := HO2.out
  unfold Own Sec.v at hR
  subst q1
  have hc0 := (Kd.R_celln (enc := Value.int .u8) (h1 := fun _ => rfl) 0 hR 0 (by decide) (by show (0 : Int) < l2.length; rw [hlen]; decide)).1
  have hc1 := (Kd.R_celln (enc := Value.int .u8) (h1 := fun _ => rfl) 0 hR 1 (by decide) (by show (1 : Int) < l2.length; rw [hlen]; decide)).1
  replace hc0 : x2.cell? ⟨k2, 0, none⟩ = some (.int .u8 99) := by rw [show ({ a := some ⟨k2, 0, none⟩, c := c2, b := l2 } : Sec).b = wholeF [99] from e2] at hc0; exact hc0
  replace hc1 : x2.cell? ⟨k2, 1, none⟩ = some (.int .u8 0) := by rw [show ({ a := some ⟨k2, 0, none⟩, c := c2, b := l2 } : Sec).b = wholeF [99] from e2] at hc1; exact hc1
  have HBB := Aside0.mk HI.out.B
  clear hR q2 q3 e2 HO2 HI HL2
  go_wp2
  go_ret
  exact ⟨rfl, HBB.out⟩
end Go.Proofs.Ytihmfccpgahmaaa.Dk
