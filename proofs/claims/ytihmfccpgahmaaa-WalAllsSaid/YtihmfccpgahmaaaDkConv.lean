/- Bytes of a disk's sector: conversions, cuts; facts on noughts behind bytes. No conditions beyond those that are named. -/
import Derived.Test.YtihmfccpgahmaaaDkHead
import Derived.Test.YtihmfccpgahmaaaStr
namespace Go.Proofs.Ytihmfccpgahmaaa.Dk
open Go Go.RowKit Go.Proofs.YtihmfccpgahmaaaW.PrintWords Go.Proofs.YtihmfccpgahmaaaW.PrintMore Go.Proofs.YtihmfccpgahmaaaW.PrintLast Go.Proofs.Ytihmfccpgahmaaa.Str
set_option linter.unusedVariables false
set_option linter.unusedSimpArgs false
/-- string(x[:j]). -/
theorem cv_take {w0 W : World} {A : Option Addr} {l : List Int} (hC : Kd.C (Kd.int .u8) w0 A l.length l) (hB : Below w0.heap.size w0 W) {j : Nat} (c : Nat) (hj : j ≤ l.length) :
    (convert 22 9 (.slice A j c)).run Try.prog W = .ok (.string (strOfNums (l.take j))) W := by
  have h := Kd.C_below (Kd.C_take (m := j) hC hj) hB
  rw [List.length_take, Nat.min_eq_left hj] at h
  exact Kd.C_string (e := 5) Try.underlying22 Try.underlying5 Try.underlying9 h
theorem cv_all {w0 W : World} {A : Option Addr} {l : List Int} (hC : Kd.C (Kd.int .u8) w0 A l.length l) (hB : Below w0.heap.size w0 W) (c : Nat) : (convert 22 9 (.slice A l.length c)).run Try.prog W = .ok (.string (strOfNums l)) W := by
  have := cv_take hC hB c (Nat.le_refl _)
  rw [List.take_length] at this
  exact this
theorem own_C {w : World} {base : Nat} {S : Nat → Prop} {A : Option Addr} {c : Nat} {l : List Int} (h : Own w base S ⟨A, c, l⟩) : l.length ≤ c ∧ Kd.C (Kd.int .u8) w A l.length l := by
  obtain ⟨A', c', hv, hl, hC⟩ := Kd.R_reads h
  injection hv with h1 h2 h3
  subst h1 h3
  exact ⟨hl, hC⟩
/-- What was read before stays, whatever a disk's call writes. -/
theorem own_kept {w W : World} {base : Nat} {S T : Nat → Prop} {s : Sec} (h : Own w base T s) (hk : Kept w W S) (hne : ∀ k, S k → k < base) : Own W base T s :=
  Kd.R_mono (Kd.R_step (Kd.R_bound h) (fun k hq hlt => hk.block k hlt (fun hs => by have := hne k hs; have := hq.2.1; omega))) (fun _ hq => hq.1)
theorem own_below {w W : World} {base : Nat} {T : Nat → Prop} {s : Sec} (h : Own w base T s) (hb : Below w.heap.size w W) : Own W base T s :=
  Kd.R_step h (fun k _ hlt => hb.block k hlt)
theorem below_drewN (w : World) (n : Nat) : Below w.heap.size w (w.drewN n) := pw_below_drewN (Below.refl _ _) n
theorem whole_len {l : List Int} (h : l.length ≤ 512) : (wholeF l).length = 512 := by
  unfold wholeF
  rw [List.length_append, List.length_replicate]
  omega
theorem whole_take (l : List Int) : (wholeF l).take l.length = l := by
  unfold wholeF
  rw [List.take_append_of_le_length (Nat.le_refl _), List.take_length]
theorem whole_drop (l : List Int) : (wholeF l).drop l.length = List.replicate (512 - l.length) 0 := by
  unfold wholeF
  rw [List.drop_append_of_le_length (Nat.le_refl _), List.drop_length, List.nil_append]
theorem whole_zero (l : List Int) {i : Nat} (h0 : l.length ≤ i) (h1 : i < 512) : rdOf (0 : Int) (wholeF l) (i : Int) = 0 := by
  unfold rdOf wholeF
  rw [Int.toNat_natCast, List.getD_eq_getElem?_getD, List.getElem?_append_right h0]
  simp only [List.getElem?_replicate]
  split <;> rfl
/-- A byte of a sector that was read, behind what was written. -/
theorem whole_cell {w : World} {base k c : Nat} {S : Nat → Prop} {l x : List Int} (h : Own w base S ⟨some ⟨k, 0, none⟩, c, x⟩) (hx : x = wholeF l) (h5 : l.length ≤ 512) {i : Nat} (h0 : l.length ≤ i) (h1 : i < 512) : w.cell? ⟨k, i, none⟩ = some (.int .u8 0) := by
  have hlen : x.length = 512 := by rw [hx]; exact whole_len h5
  have h2 := (Kd.R_celln (enc := Value.int .u8) (h1 := fun _ => rfl) 0 (show (Kd.int .u8).R _ w base S (.slice (some ⟨k, 0, none⟩) x.length c) x from h) (i : Int) (by omega) (by omega)).1
  rw [Int.toNat_natCast, hx, whole_zero l h0 h1] at h2
  exact h2
end Go.Proofs.Ytihmfccpgahmaaa.Dk
