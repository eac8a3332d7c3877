/- The disk statements' operations: what stands in memory, how an argument reads. No conditions beyond those that are named. -/
import Derived.Test.YtihmfccpgahmaaaDkConv
import Derived.Test.YtihmfccpgahmaaaOpen
namespace Go.Proofs.Ytihmfccpgahmaaa.Dk
open Go Go.RowKit Go.WideShapes Go.Proofs.YtihmfccpgahmaaaW.PrintWords Go.Proofs.YtihmfccpgahmaaaW.PrintMore Go.Proofs.YtihmfccpgahmaaaW.PrintLast Go.Proofs.Ytihmfccpgahmaaa.Open
set_option linter.unusedVariables false
set_option linter.unusedSimpArgs false

structure OpV where
  k : Int
  at_ : Int
  b : List Int
  keep : List Bool
  tear : Int
def kOp : Kd OpV := Kd.iso (Kd.pair (Kd.int .i64) (Kd.pair (Kd.int .i64) (Kd.pair (Kd.slice 5 (Kd.int .u8)) (Kd.pair (Kd.slice 4 Kd.bool) (Kd.int .i64))))) (fun o => (o.k, o.at_, o.b, o.keep, o.tear))
def OpOk (o : OpV) : Prop := (Lit.int .i64 o.k).wf = true ∧ (Lit.int .i64 o.at_).wf = true ∧ (∀ x ∈ o.b, (Lit.int .u8 x).wf = true) ∧ (Lit.int .i64 o.tear).wf = true

theorem op_cells {w : World} {o : OpV} {c : List Value} (h : kOp.K w o c) : ∃ bA bc kA kc, c = [.int .i64 o.k, .int .i64 o.at_, .slice bA o.b.length bc, .slice kA o.keep.length kc, .int .i64 o.tear] ∧ o.b.length ≤ bc ∧ Kd.C (Kd.int .u8) w bA o.b.length o.b ∧ o.keep.length ≤ kc ∧ Kd.C Kd.bool w kA o.keep.length o.keep := by
  obtain ⟨c0, _, rfl, h0, c1, _, rfl, h1, c2, _, rfl, h2, c3, c4, rfl, h3, h4⟩ := h
  obtain ⟨bA, bc, rfl, hb1, hb2⟩ := h2
  obtain ⟨kA, kc, rfl, hk1, hk2⟩ := h3
  replace h0 : c0 = [.int .i64 o.k] := h0
  replace h1 : c1 = [.int .i64 o.at_] := h1
  replace h4 : c4 = [.int .i64 o.tear] := h4
  subst h0 h1 h4
  exact ⟨bA, bc, kA, kc, rfl, hb1, hb2, hk1, hk2⟩
theorem up_cell {w W : World} {p : Addr} {v : Value} (hb : Below w.heap.size w W) (h : w.cell? p = some v) : W.cell? p = some v := (hb.cell (World.block_lt_of_cell? _ _ h)).trans h
/-- An operation that stands in a row. -/
theorem op_at {w : World} {A : Option Addr} {l : List OpV} (h : Kd.C kOp w A l.length l) (k : Nat) (hk : k < l.length) : ∃ ad bA bc kA kc, A = some ad ∧ w.cell? (ad.add (k * 5)) = some (.int .i64 l[k].k) ∧ w.cell? ⟨(ad.add (k * 5)).block, (ad.add (k * 5)).off + 1, none⟩ = some (.int .i64 l[k].at_) ∧ w.cell? ⟨(ad.add (k * 5)).block, (ad.add (k * 5)).off + 2, none⟩ = some (.slice bA l[k].b.length bc) ∧
    w.cell? ⟨(ad.add (k * 5)).block, (ad.add (k * 5)).off + 3, none⟩ = some (.slice kA l[k].keep.length kc) ∧ w.cell? ⟨(ad.add (k * 5)).block, (ad.add (k * 5)).off + 4, none⟩ = some (.int .i64 l[k].tear) ∧ l[k].b.length ≤ bc ∧ Kd.C (Kd.int .u8) w bA l[k].b.length l[k].b ∧ l[k].keep.length ≤ kc ∧ Kd.C Kd.bool w kA l[k].keep.length l[k].keep := by
  obtain ⟨ad, c, hA, _, hK, hc⟩ := Kd.C_get h ⟨0, 0, [], [], 0⟩ (k : Int) (by omega) (by omega)
  rw [Int.toNat_natCast] at hK hc
  have e : l.getD k ⟨0, 0, [], [], 0⟩ = l[k] := by simp [List.getD_eq_getElem?_getD, List.getElem?_eq_getElem hk]
  rw [e] at hK
  obtain ⟨bA, bc, kA, kc, rfl, h1, h2, h3, h4⟩ := op_cells hK
  exact ⟨ad, bA, bc, kA, kc, hA, hc 0 _ rfl, by rw [← add_field _ _ 1 (by decide)]; exact hc 1 _ rfl, by rw [← add_field _ _ 2 (by decide)]; exact hc 2 _ rfl, by rw [← add_field _ _ 3 (by decide)]; exact hc 3 _ rfl, by rw [← add_field _ _ 4 (by decide)]; exact hc 4 _ rfl, h1, h2, h3, h4⟩

section
variable {H : Type} {enc : TypeId × Value → H} {w : World} {base : Nat} {spare : Nat → Bool} {held : Bool}
theorem list5 : ∀ cs : List Value, cs.length = 5 → ∃ x0 x1 x2 x3 x4, cs = [x0, x1, x2, x3, x4]
  | [x0, x1, x2, x3, x4], _ => ⟨x0, x1, x2, x3, x4, rfl⟩
theorem opn_op : Opn enc Try.prog w base spare held 36 kOp OpOk := by
  intro fuel cs D p h
  obtain ⟨hl, n, hF⟩ := trod_fields Try.underlying36 h
  have hl5 : cs.length = 5 := hl.trans (by kernel_rfl)
  obtain ⟨x0, x1, x2, x3, x4, rfl⟩ := list5 cs hl5
  have z1 : Try.prog.cellsOf 3 = 1 := by kernel_rfl
  have z2 : Try.prog.cellsOf 22 = 1 := by kernel_rfl
  have z3 : Try.prog.cellsOf 30 = 1 := by kernel_rfl
  obtain ⟨y0, q0⟩ := hF 0 _ rfl
  obtain ⟨y1, q1⟩ := hF 1 _ rfl
  obtain ⟨y2, q2⟩ := hF 2 _ rfl
  obtain ⟨y3, q3⟩ := hF 3 _ rfl
  obtain ⟨y4, q4⟩ := hF 4 _ rfl
  replace q0 : DataW.trod enc Try.prog w base spare held n 3 [x0] = some y0 := by simpa [z1] using q0
  replace q1 : DataW.trod enc Try.prog w base spare held n 3 [x1] = some y1 := by simpa [z1] using q1
  replace q2 : DataW.trod enc Try.prog w base spare held n 22 [x2] = some y2 := by simpa [z2] using q2
  replace q3 : DataW.trod enc Try.prog w base spare held n 30 [x3] = some y3 := by simpa [z3] using q3
  replace q4 : DataW.trod enc Try.prog w base spare held n 3 [x4] = some y4 := by simpa [z1] using q4
  obtain ⟨a0, k0, b0⟩ := opn_int Try.underlying3 _ _ _ _ q0
  obtain ⟨a1, k1, b1⟩ := opn_int Try.underlying3 _ _ _ _ q1
  obtain ⟨a2, k2, b2⟩ := opn_slice Try.underlying22 (by kernel_rfl) (opn_int Try.underlying5) _ _ _ _ q2
  obtain ⟨a3, k3, b3⟩ := opn_slice Try.underlying30 (by kernel_rfl) (opn_bool Try.underlying4) _ _ _ _ q3
  obtain ⟨a4, k4, b4⟩ := opn_int Try.underlying3 _ _ _ _ q4
  exact ⟨⟨a0, a1, a2, a3, a4⟩, ⟨[x0], [x1, x2, x3, x4], rfl, k0, [x1], [x2, x3, x4], rfl, k1, [x2], [x3, x4], rfl, k2, [x3], [x4], rfl, k3, k4⟩, b0, b1, b2, b4⟩
end
end Go.Proofs.Ytihmfccpgahmaaa.Dk
