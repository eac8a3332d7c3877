/- disk.Read, walked. -/
import Derived.Test.YtihmfccpgahmaaaDk
namespace Go.Proofs.Ytihmfccpgahmaaa.Dk
open Go Go.RowKit Go.Proofs.YtihmfccpgahmaaaW.PrintWords Go.Proofs.YtihmfccpgahmaaaW.PrintMore
set_option linter.unusedVariables false
set_option linter.unusedSimpArgs false

/-- What reading a sector tells. -/
def readE (D : DkS) (i : Int) : Int := if askF D i = 0 then (if rdOf false D.torn i = true then 9 else 0) else askF D i
def readB (D : DkS) (i : Int) : List Int := if readE D i = 0 then wholeF (rdOf Sec.nil D.now i).b else []

section
variable {w : World} {base g : Nat} {S : Nat → Prop} {D : DkS} {r : Rws}
theorem ask_zero {i : Int} (h : askF D i = 0) : 0 ≤ i ∧ i < D.now.length ∧ D.down = false := by
  unfold askF at h
  split at h
  · cases h
  · rename_i hn
    refine ⟨by omega, by omega, ?_⟩
    cases hd : D.down
    · rfl
    · rw [if_pos hd] at h; cases h

theorem mem_rd {α : Type} (d : α) (l : List α) (i : Int) (h0 : 0 ≤ i) (h1 : i < l.length) : rdOf d l i ∈ l := by
  unfold rdOf
  have h : i.toNat < l.length := by omega
  simp [List.getD_eq_getElem?_getD, List.getElem?_eq_getElem h]

set_option maxHeartbeats 1000000 in
theorem read_ok (h : IsD w base g S D r) (i : Int) : Calls Try.prog 23 #[.pointer (some ⟨g, 0, none⟩), .int .i64 i] w fun e w' => ∃ s : Sec, e = .returned (.tuple #[s.v, .int .i64 (readE D i)]) ∧ s.b = readB D i ∧ Own w' w.heap.size (fun _ => True) s ∧ Below w.heap.size w w' := by
  have hI := Aside0.mk h
  have hL := Aside0.mk (ask_ok h i)
  clear h
  by_cases hA : askF D i = 0
  · obtain ⟨h0, h1, h2⟩ := ask_zero hA
    have hlt := hI.out.lt
    obtain ⟨gt, ct, hvt, hbt, hst, cst, hct⟩ := Kd.R_form hI.out.torn (by omega)
    have hT := hI.out.torn
    rw [hvt] at hT
    have ht := (Kd.R_celln (h1 := fun _ => rfl) false hT i h0 (by omega)).1
    have c1 : w.cell? ⟨g, 1, none⟩ = some (.slice (some ⟨gt, 0, none⟩) D.torn.length ct) := (blk_cell hI.out.blk 1).trans (by rw [hvt]; rfl)
    have p1 : (0 ≤ i) = True := eq_true h0
    have q1 : (i < (D.torn.length : Int)) = True := eq_true (by omega)
    have t1 : (askF D i != 0) = false := by simp [hA]
    cases hb : rdOf false D.torn i
    · obtain ⟨gn, cn, hvn, hbn, hsn, csn, hcn⟩ := Kd.R_form hI.out.now (by omega)
      have hN := hI.out.now
      rw [hvn] at hN
      have hn := (Kd.R_celln (h1 := fun _ => rfl) Sec.nil hN i h0 (by omega)).1
      have c0 : w.cell? ⟨g, 0, none⟩ = some (.slice (some ⟨gn, 0, none⟩) D.now.length cn) := (blk_cell hI.out.blk 0).trans (by rw [hvn]; rfl)
      have q0 : (i < (D.now.length : Int)) = True := eq_true h1
      have hm := mem_rd Sec.nil D.now i h0 h1
      have hW := Aside0.mk (Kd.R_reads (hI.out.onow _ hm))
      have h5 := Aside0.mk (hI.out.fnow _ hm)
      rw [hb] at ht
      have e0 := Aside0.mk (show readE D i = 0 by unfold readE; rw [if_pos hA, hb, if_neg (by simp)])
      unfold Sec.v at hn
      clear hA h0 h1 h2 hvt hT hvn hN hbt hst hct hbn hsn hcn hm hb hlt
      go_enter Try.func23, Try.ntmps23
      go_wp2_with fail
      refine hL.out.mono ?_
      rintro e w' ⟨rfl, rfl⟩
      go_wp2_with fail
      obtain ⟨A, c, hv, hl, hC⟩ := hW.out
      unfold Sec.v at hv
      injection hv with hv1 hv2 hv3
      rw [← hv1] at hC
      refine (whole_ok _ _ _ _ hC h5.out).mono ?_
      rintro e w' ⟨s, rfl, hs, ho, hB⟩
      go_wp2
      go_ret2
      refine ⟨s, by rw [e0.out]; rfl, ?_, ho, hB⟩
      unfold readB
      rw [if_pos e0.out]
      exact hs
    · rw [hb] at ht
      have e0 := Aside0.mk (show readE D i = 9 by unfold readE; rw [if_pos hA, hb, if_pos rfl])
      clear hA h0 h1 h2 hvt hT hbt hst hct hb hlt
      go_enter Try.func23, Try.ntmps23
      go_wp2_with fail
      refine hL.out.mono ?_
      rintro e w' ⟨rfl, rfl⟩
      go_wp2
      go_ret2
      exact ⟨Sec.nil, by rw [e0.out]; rfl, by unfold readB; rw [e0.out]; rfl, Kd.R_nil _ _ _ _ _, Below.refl _ _⟩
  · have t1 : (askF D i != 0) = true := by simpa using hA
    have e0 := Aside0.mk (show readE D i = askF D i by unfold readE; rw [if_neg hA])
    have e1 := Aside0.mk hA
    clear hA
    go_enter Try.func23, Try.ntmps23
    go_wp2_with fail
    refine hL.out.mono ?_
    rintro e w' ⟨rfl, rfl⟩
    go_wp2
    go_ret2
    exact ⟨Sec.nil, by rw [e0.out]; rfl, by unfold readB; rw [e0.out, if_neg e1.out]; rfl, Kd.R_nil _ _ _ _ _, Below.refl _ _⟩
end
end Go.Proofs.Ytihmfccpgahmaaa.Dk
