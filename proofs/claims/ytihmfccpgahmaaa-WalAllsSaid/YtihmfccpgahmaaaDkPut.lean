/- A store into one of the disk's rows. -/
import Derived.Test.YtihmfccpgahmaaaDk
namespace Go.Proofs.Ytihmfccpgahmaaa.Dk
open Go Go.RowKit Go.Proofs.YtihmfccpgahmaaaW.PrintWords Go.Proofs.YtihmfccpgahmaaaW.PrintMore
set_option linter.unusedVariables false
set_option linter.unusedSimpArgs false
section
variable {w : World} {base g : Nat} {S : Nat → Prop} {D : DkS} {r : Rws}
theorem R_far' {α : Type} {d : Kd α} {e base : Nat} {ok : Nat → Prop} {v : Value} {xs : List α} {x t : Nat} {cells : Array Value} (h : d.R e w base ok v xs) (hx : w.heap[x]? = some (.cells cells t (0, 0))) (ht : ∀ q, q ∈ e :: d.E → q ≠ t) (j : Nat) (u : Value) : d.R e (w.setCell ⟨x, j, none⟩ u) base ok v xs :=
  Kd.R_set h hx ht j u
theorem R_far2 {α : Type} {d : Kd α} {e base : Nat} {ok : Nat → Prop} {v : Value} {xs : List α} {x : Nat} (h : d.R e w base ok v xs) (hok : ∀ k, ok k → k ≠ x) (j : Nat) (u : Value) : d.R e (w.setCell ⟨x, j, none⟩ u) base ok v xs :=
  Kd.R_far h (p := ⟨x, j, none⟩) hok u
theorem IsD.put_now (h : IsD w base g S D r) {x n c : Nat} (hv : r.n = .slice (some ⟨x, 0, none⟩) n c) (i : Int) (s : Sec) (ho : Own w base S s) (h5 : s.b.length ≤ 512) : IsD (w.setCell ⟨x, i.toNat, none⟩ s.v) base g S { D with now := D.now.set i.toNat s } r := by
  have h0 := h.now
  obtain ⟨cells, hx⟩ := Kd.R_typed h0 x (by rw [hv]; simp [Value.ownBlock])
  rw [hv] at h0
  have hg : g ≠ x := by
    rintro rfl
    have := h.blk.symm.trans hx
    simp at this
  exact {
    blk := blk_far h.blk (p := ⟨x, i.toNat, none⟩) hg _
    bound := fun k hk => ⟨(h.bound k hk).1, by rw [show (w.setCell ⟨x, i.toNat, none⟩ _).heap.size = w.heap.size by simp [World.setCell]]; exact (h.bound k hk).2⟩
    sg := h.sg
    now := by have := (Kd.R_putg (enc := Sec.v) (h1 := fun _ => rfl) h0 i s).1; rw [← hv] at this; exact this
    safe := R_far2 h.safe (fun k hk he => hk.2 (by rw [hv, he]; simp [Value.ownBlock])) _ _
    torn := R_far' h.torn hx (by decide) _ _
    bad := R_far' h.bad hx (by decide) _ _
    wait := R_far' h.wait hx (by decide) _ _
    onow := fun z hz => R_far' ((List.mem_or_eq_of_mem_set hz).elim (h.onow z) (fun e => e ▸ ho)) hx (by decide) _ _
    fnow := fun z hz => (List.mem_or_eq_of_mem_set hz).elim (h.fnow z) (fun e => e ▸ h5)
    osafe := fun z hz => R_far' (h.osafe z hz) hx (by decide) _ _
    fsafe := h.fsafe
    owait := fun z hz => R_far' (h.owait z hz) hx (by decide) _ _
    fwait := h.fwait
    lt := by first | exact h.lt | (simp only [List.length_set]; exact h.lt)
    ls := by first | exact h.ls | (simp only [List.length_set]; exact h.ls)
    lb := by first | exact h.lb | (simp only [List.length_set]; exact h.lb)
    lw := fun z hz => by first | exact h.lw z hz | (simp only [List.length_set]; exact h.lw z hz)
    ln := by first | exact h.ln | (simp only [List.length_set]; exact h.ln)
    lf := h.lf }
theorem IsD.put_safe (h : IsD w base g S D r) {x n c : Nat} (hv : r.s = .slice (some ⟨x, 0, none⟩) n c) (i : Int) (s : Sec) (ho : Own w base S s) (h5 : s.b.length ≤ 512) : IsD (w.setCell ⟨x, i.toNat, none⟩ s.v) base g S { D with safe := D.safe.set i.toNat s } r := by
  have h0 := h.safe
  obtain ⟨cells, hx⟩ := Kd.R_typed h0 x (by rw [hv]; simp [Value.ownBlock])
  rw [hv] at h0
  have hg : g ≠ x := by
    rintro rfl
    have := h.blk.symm.trans hx
    simp at this
  exact {
    blk := blk_far h.blk (p := ⟨x, i.toNat, none⟩) hg _
    bound := fun k hk => ⟨(h.bound k hk).1, by rw [show (w.setCell ⟨x, i.toNat, none⟩ _).heap.size = w.heap.size by simp [World.setCell]]; exact (h.bound k hk).2⟩
    sg := h.sg
    now := R_far2 h.now (fun k hk he => hk.2 (by rw [hv, he]; simp [Value.ownBlock])) _ _
    safe := by have := (Kd.R_putg (enc := Sec.v) (h1 := fun _ => rfl) h0 i s).1; rw [← hv] at this; exact this
    torn := R_far' h.torn hx (by decide) _ _
    bad := R_far' h.bad hx (by decide) _ _
    wait := R_far' h.wait hx (by decide) _ _
    onow := fun z hz => R_far' (h.onow z hz) hx (by decide) _ _
    fnow := h.fnow
    osafe := fun z hz => R_far' ((List.mem_or_eq_of_mem_set hz).elim (h.osafe z) (fun e => e ▸ ho)) hx (by decide) _ _
    fsafe := fun z hz => (List.mem_or_eq_of_mem_set hz).elim (h.fsafe z) (fun e => e ▸ h5)
    owait := fun z hz => R_far' (h.owait z hz) hx (by decide) _ _
    fwait := h.fwait
    lt := by first | exact h.lt | (simp only [List.length_set]; exact h.lt)
    ls := by first | exact h.ls | (simp only [List.length_set]; exact h.ls)
    lb := by first | exact h.lb | (simp only [List.length_set]; exact h.lb)
    lw := fun z hz => by first | exact h.lw z hz | (simp only [List.length_set]; exact h.lw z hz)
    ln := by first | exact h.ln | (simp only [List.length_set]; exact h.ln)
    lf := h.lf }
theorem IsD.put_torn (h : IsD w base g S D r) {x n c : Nat} (hv : r.t = .slice (some ⟨x, 0, none⟩) n c) (i : Int) (u : Bool) : IsD (w.setCell ⟨x, i.toNat, none⟩ (.bool u)) base g S { D with torn := D.torn.set i.toNat u } r := by
  have h0 := h.torn
  obtain ⟨cells, hx⟩ := Kd.R_typed h0 x (by rw [hv]; simp [Value.ownBlock])
  rw [hv] at h0
  have hg : g ≠ x := by
    rintro rfl
    have := h.blk.symm.trans hx
    simp at this
  exact {
    blk := blk_far h.blk (p := ⟨x, i.toNat, none⟩) hg _
    bound := fun k hk => ⟨(h.bound k hk).1, by rw [show (w.setCell ⟨x, i.toNat, none⟩ _).heap.size = w.heap.size by simp [World.setCell]]; exact (h.bound k hk).2⟩
    sg := h.sg
    now := R_far' h.now hx (by decide) _ _
    safe := R_far' h.safe hx (by decide) _ _
    torn := by have := (Kd.R_putg (enc := Value.bool) (h1 := fun _ => rfl) h0 i u).1; rw [← hv] at this; exact this
    bad := R_far2 h.bad (fun k hk he => hk.2 (by rw [hv, he]; simp [Value.ownBlock])) _ _
    wait := R_far' h.wait hx (by decide) _ _
    onow := fun z hz => R_far' (h.onow z hz) hx (by decide) _ _
    fnow := h.fnow
    osafe := fun z hz => R_far' (h.osafe z hz) hx (by decide) _ _
    fsafe := h.fsafe
    owait := fun z hz => R_far' (h.owait z hz) hx (by decide) _ _
    fwait := h.fwait
    lt := by first | exact h.lt | (simp only [List.length_set]; exact h.lt)
    ls := by first | exact h.ls | (simp only [List.length_set]; exact h.ls)
    lb := by first | exact h.lb | (simp only [List.length_set]; exact h.lb)
    lw := fun z hz => by first | exact h.lw z hz | (simp only [List.length_set]; exact h.lw z hz)
    ln := by first | exact h.ln | (simp only [List.length_set]; exact h.ln)
    lf := h.lf }
theorem IsD.put_bad (h : IsD w base g S D r) {x n c : Nat} (hv : r.b = .slice (some ⟨x, 0, none⟩) n c) (i : Int) (u : Bool) : IsD (w.setCell ⟨x, i.toNat, none⟩ (.bool u)) base g S { D with bad := D.bad.set i.toNat u } r := by
  have h0 := h.bad
  obtain ⟨cells, hx⟩ := Kd.R_typed h0 x (by rw [hv]; simp [Value.ownBlock])
  rw [hv] at h0
  have hg : g ≠ x := by
    rintro rfl
    have := h.blk.symm.trans hx
    simp at this
  exact {
    blk := blk_far h.blk (p := ⟨x, i.toNat, none⟩) hg _
    bound := fun k hk => ⟨(h.bound k hk).1, by rw [show (w.setCell ⟨x, i.toNat, none⟩ _).heap.size = w.heap.size by simp [World.setCell]]; exact (h.bound k hk).2⟩
    sg := h.sg
    now := R_far' h.now hx (by decide) _ _
    safe := R_far' h.safe hx (by decide) _ _
    torn := R_far2 h.torn (fun k hk he => hk.2 (by rw [hv, he]; simp [Value.ownBlock])) _ _
    bad := by have := (Kd.R_putg (enc := Value.bool) (h1 := fun _ => rfl) h0 i u).1; rw [← hv] at this; exact this
    wait := R_far' h.wait hx (by decide) _ _
    onow := fun z hz => R_far' (h.onow z hz) hx (by decide) _ _
    fnow := h.fnow
    osafe := fun z hz => R_far' (h.osafe z hz) hx (by decide) _ _
    fsafe := h.fsafe
    owait := fun z hz => R_far' (h.owait z hz) hx (by decide) _ _
    fwait := h.fwait
    lt := by first | exact h.lt | (simp only [List.length_set]; exact h.lt)
    ls := by first | exact h.ls | (simp only [List.length_set]; exact h.ls)
    lb := by first | exact h.lb | (simp only [List.length_set]; exact h.lb)
    lw := fun z hz => by first | exact h.lw z hz | (simp only [List.length_set]; exact h.lw z hz)
    ln := by first | exact h.ln | (simp only [List.length_set]; exact h.ln)
    lf := h.lf }
end
end Go.Proofs.Ytihmfccpgahmaaa.Dk
