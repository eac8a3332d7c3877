/- As Open, with the form's own reach: each text that is read takes at most 2^47 - 4096 bytes. No conditions: out of the reading and the reach alone. -/
import Derived.Test.YtopfaeefhicljaaOpen
import Derived.SizedLaws
namespace Go.Proofs.Ytopfaeefhicljaa.Open
open Go Go.RowKit Go.WideShapes Go.Proofs.YtopfaeefhicljaaW.PrintWords

section
variable {H : Type} {enc : TypeId × Value → H} {P : Program} {w : World} {base : Nat} {spare : Nat → Bool} {held : Bool}

theorem weightsAll_mem {e : TypeId} : ∀ {l : List (DataW H)} {d : DataW H}, d ∈ l → ∀ n ∈ d.weights P e, n ∈ DataW.weightsAll P e l
  | x :: l, d, h, n, hn => by
    simp only [DataW.weightsAll, List.mem_append]
    rcases List.mem_cons.1 h with h | h
    · subst h; exact Or.inl hn
    · exact Or.inr (weightsAll_mem h n hn)

variable (enc P w base spare held) in
/-- Cells that read at type t, within the reach, are a value of the kind d, within B. -/
def OpnW {α : Type} (t : TypeId) (d : Kd α) (B : α → Prop) : Prop := ∀ fuel cs D p, DataW.trod enc P w base spare held fuel t cs = some (D, p) → (∀ n ∈ D.weights P t, n ≤ reachBytes) → ∃ x, d.K w x cs ∧ B x

theorem opnw_of {α : Type} {t : TypeId} {d : Kd α} {B : α → Prop} (h : Opn enc P w base spare held t d B) : OpnW enc P w base spare held t d B := fun fuel cs D p hd _ => h fuel cs D p hd

theorem opnw_string {t : TypeId} (ht : P.underlying t = some .string) : OpnW enc P w base spare held t Kd.string (fun s => s.size ≤ 140737488351232) := by
  intro fuel cs D p h hw
  obtain ⟨s, rfl, hx, hs⟩ := DataW.trod_string ht h
  injection hx with hx _
  subst hx
  refine ⟨s, rfl, ?_⟩
  have := hw s.data.toList.length (by simp [DataW.weights])
  rw [Array.length_toList] at this
  exact this

theorem opnw_slice {α : Type} {t e : TypeId} {d : Kd α} {B : α → Prop} (ht : P.underlying t = some (.slice e)) (hc : P.cellsOf e = d.sz) (hd : OpnW enc P w base spare held e d B) :
    OpnW enc P w base spare held t (Kd.slice e d) (fun xs => ∀ x ∈ xs, B x) := by
  intro fuel cs D p h hw
  rcases Deep.open_slice ht h with ⟨rfl, _⟩ | ⟨a, len, cap, m, n, D, Pl, rfl, hb, hl, hm, hmm, hx0, hx⟩
  · exact ⟨[], ⟨none, 0, rfl, Nat.le_refl _, Kd.C_nil _ _⟩, fun x hx => by cases hx⟩
  · have hlm : len ≤ m := by rw [hmm]; split <;> omega
    injection hx0 with hx0 _
    subst hx0
    have key : ∀ i : Fin len, ∃ (x : α) (c : List Value), d.K w x c ∧ B x ∧ w.cells? base (a.add (i.val * P.cellsOf e)) (P.cellsOf e) = some c := by
      intro i
      obtain ⟨cs', h1, h2⟩ := hx i.val (by have := i.isLt; omega)
      obtain ⟨x, hk, hB⟩ := hd n cs' _ _ h2 (fun u hu => hw u (by
        simp only [DataW.weights, ht, List.mem_cons, List.mem_append]
        exact Or.inr (Or.inl (weightsAll_mem (List.mem_map.2 ⟨i.val, List.mem_range.2 i.isLt, rfl⟩) u hu))))
      exact ⟨x, cs', hk, hB, h1⟩
    let f : Fin len → α := fun i => Classical.choose (key i)
    have hf : ∀ i : Fin len, ∃ c, d.K w (f i) c ∧ B (f i) ∧ w.cells? base (a.add (i.val * P.cellsOf e)) (P.cellsOf e) = some c := fun i => Classical.choose_spec (key i)
    have hlen : (List.ofFn f).length = len := List.length_ofFn
    refine ⟨List.ofFn f, ⟨some a, cap, by rw [hlen], by rw [hlen]; exact hl, rfl, by rw [hlen]; unfold maxLen at hm; omega, fun _ => ⟨a, rfl, fun j q hj => ?_⟩⟩, fun x hx => ?_⟩
    · rw [List.getElem?_ofFn] at hj
      split at hj
      · rename_i hjl
        injection hj with hj
        subst hj
        obtain ⟨c, hk, _, hcell⟩ := hf ⟨j, hjl⟩
        obtain ⟨_, hcl, hg⟩ := World.cells?_some hcell
        refine ⟨c, by rw [hcl, hc], hk, fun i u hu => ?_⟩
        have hi : i < P.cellsOf e := by
          have := (List.getElem?_eq_some_iff.mp hu).1
          omega
        have := hg i hi
        rw [add_mul, hc] at this
        rw [this]; exact hu
      · cases hj
    · obtain ⟨i, rfl⟩ := (List.mem_ofFn).mp hx
      obtain ⟨_, _, hB, _⟩ := hf i
      exact hB

/-- A struct's fields, each read for itself, within the reach. -/
theorem trod_fields_w {t : TypeId} {fs : Array Field} {fuel : Nat} {cs : List Value} {D : DataW H} {p : List MemPlace} (ht : P.underlying t = some (.struct fs)) (h : DataW.trod enc P w base spare held fuel t cs = some (D, p)) (hw : ∀ n ∈ D.weights P t, n ≤ reachBytes) :
    cs.length = P.cellsOf t ∧ ∃ n, ∀ (i : Nat) (f : Field), fs[i]? = some f → ∃ y q, DataW.trod enc P w base spare held n f.type ((cs.drop f.offset).take (P.cellsOf f.type)) = some (y, q) ∧ ∀ n ∈ y.weights P f.type, n ≤ reachBytes := by
  obtain ⟨xs, n, rfl, hx, hl, hsz, hget⟩ := DataW.trod_struct ht h
  injection hx with hx _
  subst hx
  refine ⟨hl, n, fun i f hf => ?_⟩
  have hg := hget i f hf
  have hi : i < xs.length := by
    rw [hsz]
    exact (Array.getElem?_eq_some_iff.mp hf).1
  rw [List.getElem?_eq_getElem hi] at hg
  refine ⟨xs[i].1, xs[i].2, hg, fun u hu => hw u ?_⟩
  simp only [DataW.weights, ht]
  refine DataW.weights_mem_each (j := i) (t := f.type) (d := xs[i].1) ?_ ?_ u hu
  · rw [List.getElem?_map, Array.getElem?_toList, hf]
    rfl
  · rw [List.getElem?_map, List.getElem?_eq_getElem hi]
    rfl

/-- The reach, parameter by parameter. -/
theorem sized_at {ts : List TypeId} {ds : List (DataW H)} (h : (DataW.weightsEach P ts ds).all (· ≤ reachBytes) = true) (j : Nat) {t : TypeId} {d : DataW H} (ht : ts[j]? = some t) (hd : ds[j]? = some d) : ∀ n ∈ d.weights P t, n ≤ reachBytes := fun n hn => by
  have := List.all_eq_true.1 h _ (DataW.weights_mem_each ht hd n hn)
  simpa using this
end
end Go.Proofs.Ytopfaeefhicljaa.Open
