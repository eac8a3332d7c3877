/- What the reading of an argument as data tells of its cells, type by type: whole numbers, truths, texts, slices of them, structs. No conditions: out of the reading alone. -/
import Derived.ProofKit
import Derived.OpenShut
import Derived.Lib.SmallJoins
import Derived.Deep.Slices
import Derived.Test.YtihmfccpgahmaaaWWords
namespace Go.Proofs.Ytihmfccpgahmaaa.Open
open Go Go.RowKit Go.WideShapes Go.Proofs.YtihmfccpgahmaaaW.PrintWords

section
variable {H : Type} {enc : TypeId × Value → H} {P : Program} {w : World} {base : Nat} {spare : Nat → Bool} {held : Bool}

theorem mapM_all {α β : Type} {f : α → Option β} : ∀ {l : List α} {r : List β}, l.mapM f = some r → r.length = l.length ∧ ∀ (i : Nat) (a : α), l[i]? = some a → ∃ b, f a = some b
  | [], r, h => by
    simp at h
    subst h
    exact ⟨rfl, fun i a h => by simp at h⟩
  | x :: l, r, h => by
    simp only [List.mapM_cons, Option.pure_def, Option.bind_eq_bind] at h
    obtain ⟨y, hy, h⟩ := Option.bind_eq_some_iff.mp h
    obtain ⟨ys, hys, h⟩ := Option.bind_eq_some_iff.mp h
    injection h with h
    subst h
    obtain ⟨h1, h2⟩ := mapM_all hys
    refine ⟨by simp [h1], fun i a hi => ?_⟩
    cases i with
    | zero => simp at hi; subst hi; exact ⟨y, hy⟩
    | succ i => exact h2 i a (by simpa using hi)

variable (enc P w base spare held) in
/-- Cells that read at type t are a value of the kind d, within B. -/
def Opn {α : Type} (t : TypeId) (d : Kd α) (B : α → Prop) : Prop := ∀ fuel cs D p, DataW.trod enc P w base spare held fuel t cs = some (D, p) → ∃ x, d.K w x cs ∧ B x

theorem opn_int {t : TypeId} {k : IntKind} (ht : P.underlying t = some (.int k)) : Opn enc P w base spare held t (Kd.int k) (fun n => (Lit.int k n).wf = true) := by
  intro fuel cs D p h
  obtain ⟨n, rfl, _, hn⟩ := DataW.trod_int ht h
  exact ⟨n, rfl, hn⟩
theorem opn_bool {t : TypeId} (ht : P.underlying t = some .bool) : Opn enc P w base spare held t Kd.bool (fun _ => True) := by
  intro fuel cs D p h
  obtain ⟨b, rfl, _⟩ := DataW.trod_bool ht h
  exact ⟨b, rfl, trivial⟩
theorem opn_string {t : TypeId} (ht : P.underlying t = some .string) : Opn enc P w base spare held t Kd.string (fun s => s.size ≤ maxLen) := by
  intro fuel cs D p h
  obtain ⟨s, rfl, _, hs⟩ := DataW.trod_string ht h
  exact ⟨s, rfl, hs⟩

theorem add_mul (a : Addr) (i j : Nat) : (a.add i).add j = a.add (i + j) := add_add a i j

theorem opn_slice {α : Type} {t e : TypeId} {d : Kd α} {B : α → Prop} (ht : P.underlying t = some (.slice e)) (hc : P.cellsOf e = d.sz) (hd : Opn enc P w base spare held e d B) :
    Opn enc P w base spare held t (Kd.slice e d) (fun xs => ∀ x ∈ xs, B x) := by
  intro fuel cs D p h
  rcases Deep.open_slice ht h with ⟨rfl, _⟩ | ⟨a, len, cap, m, n, D, Pl, rfl, hb, hl, hm, hmm, _, hx⟩
  · exact ⟨[], ⟨none, 0, rfl, Nat.le_refl _, Kd.C_nil _ _⟩, fun x hx => by cases hx⟩
  · have hlm : len ≤ m := by rw [hmm]; split <;> omega
    have key : ∀ i : Fin len, ∃ (x : α) (c : List Value), d.K w x c ∧ B x ∧ w.cells? base (a.add (i.val * P.cellsOf e)) (P.cellsOf e) = some c := by
      intro i
      obtain ⟨cs', h1, h2⟩ := hx i.val (by have := i.isLt; omega)
      obtain ⟨x, hk, hB⟩ := hd n cs' _ _ h2
      exact ⟨x, cs', hk, hB, h1⟩
    let f : Fin len → α := fun i => Classical.choose (key i)
    have hf : ∀ i : Fin len, ∃ c, d.K w (f i) c ∧ B (f i) ∧ w.cells? base (a.add (i.val * P.cellsOf e)) (P.cellsOf e) = some c := fun i => Classical.choose_spec (key i)
    have hlen : (List.ofFn f).length = len := List.length_ofFn
    refine ⟨List.ofFn f, ⟨some a, cap, by rw [hlen], by rw [hlen]; exact hl, rfl, by rw [hlen]; unfold maxLen at hm; omega, fun _ => ⟨a, rfl, fun j q hj => ?_⟩⟩, fun x hx => ?_⟩
    · rw [List.getElem?_ofFn] at hj
      split at hj
      · rename_i hjl
        injection hj with hj
        subst hj
        obtain ⟨c, hk, _, hcell⟩ := hf ⟨j, hjl⟩
        obtain ⟨_, hcl, hg⟩ := World.cells?_some hcell
        refine ⟨c, by rw [hcl, hc], hk, fun i u hu => ?_⟩
        have hi : i < P.cellsOf e := by
          have := (List.getElem?_eq_some_iff.mp hu).1
          omega
        have := hg i hi
        rw [add_mul, hc] at this
        rw [this]; exact hu
      · cases hj
    · obtain ⟨i, rfl⟩ := (List.mem_ofFn).mp hx
      obtain ⟨_, _, hB, _⟩ := hf i
      exact hB

/-- A struct's fields, each read for itself. -/
theorem trod_fields {t : TypeId} {fs : Array Field} {fuel : Nat} {cs : List Value} {D : DataW H} {p : List MemPlace} (ht : P.underlying t = some (.struct fs)) (h : DataW.trod enc P w base spare held fuel t cs = some (D, p)) :
    cs.length = P.cellsOf t ∧ ∃ n, ∀ (i : Nat) (f : Field), fs[i]? = some f → ∃ y, DataW.trod enc P w base spare held n f.type ((cs.drop f.offset).take (P.cellsOf f.type)) = some y := by
  cases fuel with
  | zero => simp [DataW.trod] at h
  | succ n =>
    simp only [DataW.trod, ht] at h
    split at h
    · rename_i hl
      refine ⟨hl, n, fun i f hf => ?_⟩
      obtain ⟨xs, hx, _⟩ := Option.map_eq_some_iff.mp h
      exact (mapM_all hx).2 i f (by simpa using hf)
    · cases h
end
end Go.Proofs.Ytihmfccpgahmaaa.Open
