/- The builtin copy and the builtin clear, as steps of a region that draws its order: laws that the printed words lack. No conditions beyond those that each law names. -/
import Derived.Test.YtihmfccpgahmaaaWWords
import Derived.Test.YtihmfccpgahmaaaWInv
import Derived.Lib.SliceRun
namespace Go.Proofs.YtihmfccpgahmaaaW.PrintWords
open Go Go.RowKit
section
variable {P : Program} {ops : Array Oper} {rest : List Oper} {o : Oper} {a : Act} {Q : Exit → Act → World → Prop} {Kc : Act → World → Prop} {α : Type}
theorem copy_run {enc : α → Value} {h1 : ∀ x, (enc x).oneCell' = true} (d : α) {W : World} (base : Nat) (t t' e ty : TypeId)
    (ht : P.underlying t = some (.slice e)) (hinfo : (P.info? e).map (·.size) = some 1)
    (v : Value) (xs ys : List α) (A : Option Addr) (m c : Nat) (ok : Nat → Prop)
    (HO : (Kd.scalar enc h1).R e W base ok v xs) (HR : (Kd.scalar enc h1).C W A m ys) :
    ∃ w1, (Builtin.copy_ #[t, t'] ty #[v, .slice A m c]).run P W = .ok (goInt ((min m xs.length : Nat) : Int)) w1 ∧ (Kd.scalar enc h1).R e w1 base ok v (ys.take (min m xs.length) ++ xs.drop (min m xs.length)) ∧ W.grownBy w1 v.ownBlock ∧ w1.heap.size = W.heap.size := by
  have hR := Kd.reads_of_C (enc := enc) (d := d) (h1 := h1) HR
  have hm : ys.length = m := hR.1
  have hown := Kd.own_of_R HO
  rcases Nat.eq_zero_or_pos (min m xs.length) with h0 | hp
  · obtain ⟨A', c', hv⟩ := own_slice hown
    refine ⟨W, ?_, by rw [h0, List.take_zero, List.drop_zero, List.nil_append]; exact HO, World.grownBy.refl W _, rfl⟩
    rw [h0, hv]
    exact run_copy_none W t t' ty e A' A xs.length c' m c ht hinfo h0
  · obtain ⟨ad, hA, hc⟩ := hR.2.2 (by omega)
    rcases hown.2 with ⟨_, hx0⟩ | ⟨g, cap, cur, hv, hb, hh, hnc, hcm, hcs, htake⟩
    · omega
    have hcs1 : cur.size = cap := by omega
    have hsrc : ∀ j u, (encs enc (ys.take (min m xs.length)))[j]? = some u → W.cell? (ad.add j) = some u := by
      intro j u hu
      have hj : j < (ys.take (min m xs.length)).length := by
        rcases Nat.lt_or_ge j (ys.take (min m xs.length)).length with h | h
        · exact h
        · rw [List.getElem?_eq_none (by rw [encs_length]; exact h)] at hu
          cases hu
      have hjm : j < min m xs.length := by rw [List.length_take] at hj; omega
      rw [encs_get (d := d) _ j hj] at hu
      rw [hc j (by omega), ← hu]
      simp [List.getD_eq_getElem?_getD, hjm]
    have hkl : (encs enc (ys.take (min m xs.length))).length = min m xs.length := by rw [encs_length, List.length_take]; omega
    have hr := run_copy_cells (P := P) W t t' ty e g 0 xs.length cap ad m c (encs enc (ys.take (min m xs.length))) ht hinfo (by rw [hkl]) hsrc
      (fun j hj => by rw [cell_of_row W g _ cur e (0, 0) hh]; simp; omega) (fun j _ => blk_frozen hh _) (by intro u hu; simp only [encs, List.mem_map] at hu; obtain ⟨q, _, rfl⟩ := hu; exact h1 q)
    obtain ⟨cur', h3, h4, h5⟩ := setCells_row (encs enc (ys.take (min m xs.length))) 0 W cur hh (by rw [hkl]; omega)
    obtain ⟨s1, s2, s3, s4⟩ := setCells_same g (encs enc (ys.take (min m xs.length))) 0 W
    refine ⟨_, by rw [hv, hA, hr, hkl], Kd.R_of_own ?_ HO.1, ⟨s1, s2, s3, by rw [s4]; exact Nat.le_refl _, fun k _ hk => setCells_far _ _ k (fun he => hk (by rw [hv, he]; simp [Value.ownBlock]))⟩, s4⟩
    have hln : (ys.take (min m xs.length) ++ xs.drop (min m xs.length)).length = xs.length := by
      rw [List.length_append, List.length_take, List.length_drop]
      omega
    rw [hln]
    refine ⟨by rw [encs_length, hln, Nat.mul_one], .inr ⟨g, cap, cur', hv, hb, h3, hnc, hcm, by rw [h4, hcs], ?_⟩⟩
    rw [h5, List.take_zero, List.nil_append, hkl, Nat.zero_add, encs_append, Nat.mul_one]
    rw [List.take_append, hkl, List.take_of_length_le (by rw [hkl]; omega)]
    congr 1
    have htk : cur.toList.take xs.length = encs enc xs := by rw [← htake, Nat.mul_one]
    have hd : encs enc (xs.drop (min m xs.length)) = (encs enc xs).drop (min m xs.length) := by simp [encs, List.map_drop]
    rw [hd, ← htk, List.drop_take]

/-- A copy of a row as long as the target. -/
theorem copy_step {enc : α → Value} {h1 : ∀ x, (enc x).oneCell' = true} (d : α) {W : World} (base : Nat) (hw : Region.wanted o (yielded ops a.tmps) = true) (s x : Operand) (t t' e : TypeId)
    (ho : o.op = .call { callee := .builtin .copy, args := #[s, x], argTypes := #[t, t'] }) (ht : P.underlying t = some (.slice e)) (hinfo : (P.info? e).map (·.size) = some 1)
    (v : Value) (xs ys : List α) (A : Option Addr) (m c : Nat) (ok : Nat → Prop) (hs : a.eval s = v) (hx : a.eval x = .slice A m c)
    (HO : (Kd.scalar enc h1).R e W base ok v xs) (HR : (Kd.scalar enc h1).C W A m ys) (hl : ys.length = xs.length)
    (h : ∀ w1, (Kd.scalar enc h1).R e w1 base ok v ys → W.grownBy w1 v.ownBlock → w1.heap.size = W.heap.size → Kc (a.put o.dst (.int .i64 (ys.length : Int))) w1) :
    if Region.wanted o (yielded ops a.tmps) = true then Oper.wp P o a W Kc Q else Kc (a.put o.dst undef) W := by
  obtain ⟨w1, hr, hR, hg, hz⟩ := copy_run d base t t' e o.type ht hinfo v xs ys A m c ok HO HR
  have hm : m = ys.length := (Kd.reads_of_C (enc := enc) (d := d) (h1 := h1) HR).1.symm
  have e1 : min m xs.length = ys.length := by omega
  rw [e1, List.take_length, hl, List.drop_length, List.append_nil] at hR
  rw [e1] at hr
  refine event_step hw ?_ (h w1 hR hg hz)
  simp only [execOp, ho, resolve, invoke, builtin, Sem.run_bind, Sem.run_pure, Result.andThen_ok, List.map_toArray, List.map_cons, List.map_nil, hs, hx, hr]
  rfl

/-- clear of a row of one's own: the row alone turns. -/
theorem clear_run {d : Kd α} {W : World} {base t e ty : Nat} {z : Value} {v : Value} {xs : List α} {ok : Nat → Prop} (ht : P.underlying t = some (.slice e)) (hv : ∀ w, (zeroValue e).run P w = .ok z w) (hz : z.cells.size = d.sz) (hz1 : ∀ u ∈ z.cells.toList, u.oneCell' = true) (hs0 : 0 < d.sz)
    (h : d.R e W base ok v xs) : ∃ w1, (Builtin.clear_ #[t] ty #[v]).run P W = .ok (.tuple #[]) w1 ∧ W.grownBy w1 v.ownBlock ∧ w1.heap.size = W.heap.size := by
  obtain ⟨_, inner, hown, hr⟩ := h
  rcases hown.2 with ⟨rfl, _⟩ | ⟨g, cap, cur, rfl, hb, hh, hnc, hcm, hcs, htake⟩
  · exact ⟨W, by simp [Builtin.clear_, run_underlying ht], World.grownBy.refl W _, rfl⟩
  · rcases Nat.eq_zero_or_pos xs.length with h0 | hp
    · exact ⟨W, by rw [h0]; simp [Builtin.clear_, run_underlying ht], World.grownBy.refl W _, rfl⟩
    · have hlen : (Builtin.zeroCells z.cells xs.length).toList.length = xs.length * d.sz := by simp [Builtin.zeroCells, hz]
      have h1 : ∀ u ∈ (Builtin.zeroCells z.cells xs.length).toList, u.oneCell' = true := by
        intro u hu
        simp only [Builtin.zeroCells, Array.toList_map, List.mem_map] at hu
        obtain ⟨i, _, rfl⟩ := hu
        have hi : i % z.cells.size < z.cells.size := Nat.mod_lt _ (by omega)
        rw [getElem!_pos z.cells (i % z.cells.size) hi]
        exact hz1 _ (by simp)
      have hle : xs.length * d.sz ≤ cur.size := by
        rw [hcs]
        exact Nat.mul_le_mul_right _ hnc
      have hst := run_storeCells_cells (P := P) g 0 (Builtin.zeroCells z.cells xs.length).toList 0 W (fun j hj => by rw [cell_of_row W g _ cur e (0, 0) hh]; rw [hlen] at hj; simp; omega) (fun j _ => blk_frozen hh _) h1
      obtain ⟨s1, s2, s3, s4⟩ := setCells_same g (Builtin.zeroCells z.cells xs.length).toList 0 W
      refine ⟨W.setCells g 0 (Builtin.zeroCells z.cells xs.length).toList, ?_, ⟨s1, s2, s3, by rw [s4]; exact Nat.le_refl _, fun k _ hk => setCells_far _ _ k (fun he => hk (by rw [he]; simp [Value.ownBlock]))⟩, s4⟩
      obtain ⟨m, hm⟩ : ∃ m, xs.length = m + 1 := ⟨xs.length - 1, by omega⟩
      rw [hm] at hst ⊢
      simp only [Nat.add_zero] at hst
      simp [Builtin.clear_, run_underlying ht, hv, hst]
/-- clear, for the walk. -/
theorem R_clear {d : Kd α} {W : World} {base e : Nat} (hgd : o.guard = none) (s : Operand) (t : TypeId) (ho : o.op = .call { callee := .builtin .clear, args := #[s], argTypes := #[t] }) {z : Value} (v : Value) {xs : List α} {ok : Nat → Prop} (ht : P.underlying t = some (.slice e)) (hv : ∀ w, (zeroValue e).run P w = .ok z w) (hz : z.cells.size = d.sz) (hz1 : ∀ u ∈ z.cells.toList, u.oneCell' = true) (hs0 : 0 < d.sz)
    (hs : a.eval s = v) (hR : d.R e W base ok v xs) (h : ∀ w1, W.grownBy w1 v.ownBlock → w1.heap.size = W.heap.size → wpList P ops Q rest (a.put o.dst (.tuple #[])) w1) : wpList P ops Q (o :: rest) a W := by
  obtain ⟨w1, hr, hg, hsz⟩ := clear_run (ty := o.type) ht hv hz hz1 hs0 hR
  refine Kd.event_run hgd ?_ (h w1 hg hsz)
  simp only [execOp, ho, resolve, invoke, builtin, Sem.run_bind, Sem.run_pure, Result.andThen_ok, List.map_toArray, List.map_cons, List.map_nil, hs, hr]
end
end Go.Proofs.YtihmfccpgahmaaaW.PrintWords
