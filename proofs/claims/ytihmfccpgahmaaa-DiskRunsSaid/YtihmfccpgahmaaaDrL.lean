/- The law DiskRuns: what the law keeps is what the disk is. No conditions beyond those that are named. -/
import Derived.Test.YtihmfccpgahmaaaDrP
namespace Go.Proofs.Ytihmfccpgahmaaa.Dk
open Go Go.RowKit Go.Proofs.YtihmfccpgahmaaaW.PrintWords Go.Proofs.YtihmfccpgahmaaaW.PrintMore Go.Proofs.YtihmfccpgahmaaaW.PrintLast Go.Proofs.Ytihmfccpgahmaaa.Str
set_option linter.unusedVariables false
set_option linter.unusedSimpArgs false
def NS (a : List (List Int)) (t : List Bool) : List SV := (a.map strOfNums).zip t
theorem zip_set {α β : Type} : ∀ (a : List α) (t : List β) (i : Nat) (x : α) (y : β), (a.set i x).zip (t.set i y) = (a.zip t).set i (x, y)
  | [], t, i, x, y => by simp
  | _ :: _, [], i, x, y => by simp
  | u :: a, v :: t, 0, x, y => rfl
  | u :: a, v :: t, i + 1, x, y => by
    show (u, v) :: (a.set i x).zip (t.set i y) = (u, v) :: (a.zip t).set i (x, y)
    rw [zip_set]
theorem NS_set (a : List (List Int)) (t : List Bool) (i : Nat) (l : List Int) (b : Bool) : NS (a.set i l) (t.set i b) = (NS a t).set i (strOfNums l, b) := by
  unfold NS
  rw [List.map_set, zip_set]
theorem NS_len {a : List (List Int)} {t : List Bool} (h : t.length = a.length) : (NS a t).length = a.length := by
  unfold NS
  rw [List.length_zip, List.length_map]
  omega
theorem NS_get {a : List (List Int)} {t : List Bool} (j : Nat) (hj : j < (NS a t).length) (h1 : j < a.length) (h2 : j < t.length) : (NS a t)[j] = (strOfNums a[j], t[j]) := by
  have h := List.getElem_zip (l := a.map strOfNums) (l' := t) (h := hj)
  exact h.trans (by rw [List.getElem_map])
/-- What waits: the law's row and the disk's. -/
def WP (w : World) (x : Fl) (y : Int × List Int) : Prop := x.at_ = y.1 ∧ x.b.n = y.2.length ∧ Kd.C (Kd.int .u8) w x.b.a y.2.length y.2
def WRel (w : World) : List Fl → List (Int × List Int) → Prop
  | [], [] => True
  | x :: t, y :: s => WP w x y ∧ WRel w t s
  | [], _ :: _ => False
  | _ :: _, [] => False
theorem WRel.len {w : World} : ∀ {a : List Fl} {b : List (Int × List Int)}, WRel w a b → a.length = b.length
  | [], [], _ => rfl
  | _ :: _, _ :: _, h => congrArg (· + 1) (WRel.len h.2)
theorem WRel.app {w : World} {x : Fl} {y : Int × List Int} (hp : WP w x y) : ∀ {a : List Fl} {b : List (Int × List Int)}, WRel w a b → WRel w (a ++ [x]) (b ++ [y])
  | [], [], _ => ⟨hp, trivial⟩
  | _ :: _, _ :: _, h => ⟨h.1, WRel.app hp h.2⟩
theorem WRel.get {w : World} : ∀ {a : List Fl} {b : List (Int × List Int)}, WRel w a b → ∀ j (h1 : j < a.length) (h2 : j < b.length), WP w a[j] b[j]
  | _ :: _, _ :: _, h, 0, _, _ => h.1
  | _ :: _, _ :: _, h, j + 1, h1, h2 => WRel.get h.2 j (by simpa using h1) (by simpa using h2)
/-- Rows that lie in a block of one's own, none of the disk's. -/
structure LR (w W : World) (S : Nat → Prop) (v6 v7 v8 : Value) (fuse : Int) (down : Bool) (steps : Int) (M : DA) : Prop where
  n : SR w.heap.size (fun k => ¬ S k) W v6 (NS M.now M.torn)
  s : SR w.heap.size (fun k => ¬ S k) W v7 (NS M.safe M.bad)
  wt : ∃ WL, FR fF 5 36 w.heap.size (fun k => ¬ S k) W v8 WL ∧ WRel w WL M.wait
  f : fuse = M.fuse
  d : down = M.down
  k : steps = M.work
  l1 : M.wait.foldl (fun s x => s.set x.1.toNat x.2) M.safe = M.now
  l2 : M.wait.foldl (fun s x => s.set x.1.toNat false) M.bad = M.torn
  t1 : M.torn.length = M.now.length
  t2 : M.safe.length = M.now.length
  t3 : M.bad.length = M.now.length
  t4 : M.now.length ≤ 65536
section
variable {w W W2 : World} {S S' T : Nat → Prop} {v6 v7 v8 v : Value} {fuse : Int} {down : Bool} {steps : Int} {M : DA}
theorem FR.kept {α : Type} {f : α → List Value} {sz : Nat} {e : TypeId} {base : Nat} {xs : List α} (h : FR f sz e base (fun k => ¬ S k) W v xs) (hk : Kept W W2 T) (hT : ∀ k, T k → S k) (hS : ∀ k, S' k → S k ∨ W.heap.size ≤ k) : FR f sz e base (fun k => ¬ S' k) W2 v xs :=
  h.move fun g ho _ hlt => ⟨hk.block g hlt (fun q => ho (hT g q)), fun q => (hS g q).elim ho (fun q => by omega)⟩
theorem FR.new {α : Type} {f : α → List Value} {sz : Nat} {e : TypeId} {base' : Nat} {xs : List α} {ok : Nat → Prop} (h : FR f sz e W.heap.size ok W2 v xs) (hS : ∀ k, S k → k < W.heap.size) (hb : base' ≤ W.heap.size) : FR f sz e base' (fun k => ¬ S k) W2 v xs := by
  obtain ⟨A, c, rfl, h1, h2, h3⟩ := h
  refine ⟨A, c, rfl, h1, h2, fun h0 => ?_⟩
  obtain ⟨g, cells, rfl, ho, hb2, hc, hx⟩ := h3 h0
  exact ⟨g, cells, rfl, fun q => by have := hS g q; omega, by omega, hc, hx⟩
theorem FR.lower {α : Type} {f : α → List Value} {sz : Nat} {e : TypeId} {base base' : Nat} {xs : List α} {ok : Nat → Prop} (h : FR f sz e base ok W v xs) (hb : base' ≤ base) : FR f sz e base' ok W v xs := by
  obtain ⟨A, c, rfl, h1, h2, h3⟩ := h
  refine ⟨A, c, rfl, h1, h2, fun h0 => ?_⟩
  obtain ⟨g, cells, rfl, ho, hb2, hc, hx⟩ := h3 h0
  exact ⟨g, cells, rfl, ho, by omega, hc, hx⟩
theorem LR.step (h : LR w W S v6 v7 v8 fuse down steps M) (hk : Kept W W2 T) (hT : ∀ k, T k → S k) (hS : ∀ k, S' k → S k ∨ W.heap.size ≤ k) : LR w W2 S' v6 v7 v8 fuse down steps M := by
  obtain ⟨WL, h1, h2⟩ := h.wt
  exact { h with n := h.n.kept hk hT hS, s := h.s.kept hk hT hS, wt := ⟨WL, h1.kept hk hT hS, h2⟩ }
theorem LR.below (h : LR w W S v6 v7 v8 fuse down steps M) (hb : Below W.heap.size W W2) : LR w W2 S v6 v7 v8 fuse down steps M := h.step (Kept.of_below hb (fun _ => False)) (fun _ q => q.elim) (fun k q => .inl q)
theorem LR.nlen (h : LR w W S v6 v7 v8 fuse down steps M) : (NS M.now M.torn).length = M.now.length := NS_len h.t1
theorem LR.slen (h : LR w W S v6 v7 v8 fuse down steps M) : (NS M.safe M.bad).length = M.now.length := (NS_len (h.t3.trans h.t2.symm)).trans h.t2
/-- A Write: the law's rows. -/
theorem LR.put (h : LR w W S v6 v7 v8 fuse down steps M) {v6' v8' : Value} {fl : Fl} {i : Int} {l : List Int} (h6 : SR w.heap.size (fun k => ¬ S k) W v6' ((NS M.now M.torn).set i.toNat (strOfNums l, false))) {WL : List Fl} (hw : WRel w WL M.wait) (h8 : FR fF 5 36 w.heap.size (fun k => ¬ S k) W v8' (WL ++ [fl])) (hp : WP w fl (i, l)) (ha : M.ask i = 0) (hl : l.length ≤ 512) :
    LR w W S v6' v7 v8' M.step.fuse M.step.down M.step.work (M.wr i l) := by
  have e : M.wr i l = M.step.put i l := by unfold DA.wr; rw [if_pos ⟨ha, hl⟩]
  have es : M.step.now = M.now ∧ M.step.torn = M.torn ∧ M.step.safe = M.safe ∧ M.step.bad = M.bad ∧ M.step.wait = M.wait := by
    unfold DA.step; split
    · exact ⟨rfl, rfl, rfl, rfl, rfl⟩
    · split <;> exact ⟨rfl, rfl, rfl, rfl, rfl⟩
  obtain ⟨e1, e2, e3, e4, e5⟩ := es
  rw [e]
  refine { n := ?_, s := ?_, wt := ⟨WL ++ [fl], h8, ?_⟩, f := rfl, d := rfl, k := rfl, l1 := ?_, l2 := ?_, t1 := ?_, t2 := ?_, t3 := ?_, t4 := ?_ }
  · show SR _ _ W v6' (NS (M.step.now.set i.toNat l) (M.step.torn.set i.toNat false))
    rw [e1, e2, NS_set]; exact h6
  · show SR _ _ W v7 (NS M.step.safe M.step.bad)
    rw [e3, e4]; exact h.s
  · show WRel w _ (M.step.wait ++ [(i, l)])
    rw [e5]; exact WRel.app hp hw
  · show (M.step.wait ++ [(i, l)]).foldl _ M.step.safe = M.step.now.set i.toNat l
    rw [e5, e3, e1, List.foldl_append, h.l1]; rfl
  · show (M.step.wait ++ [(i, l)]).foldl _ M.step.bad = M.step.torn.set i.toNat false
    rw [e5, e4, e2, List.foldl_append, h.l2]; rfl
  · show (M.step.torn.set i.toNat false).length = (M.step.now.set i.toNat l).length
    rw [e1, e2, List.length_set, List.length_set]; exact h.t1
  · show M.step.safe.length = (M.step.now.set i.toNat l).length
    rw [e1, e3, List.length_set]; exact h.t2
  · show M.step.bad.length = (M.step.now.set i.toNat l).length
    rw [e1, e4, List.length_set]; exact h.t3
  · show (M.step.now.set i.toNat l).length ≤ _
    rw [e1, List.length_set]; exact h.t4
theorem fold_safe : ∀ (ws : List (Int × List Int)) (M : DA), (ws.foldl DA.lay M).safe = ws.foldl (fun s x => s.set x.1.toNat x.2) M.safe ∧ (ws.foldl DA.lay M).bad = ws.foldl (fun s x => s.set x.1.toNat false) M.bad ∧ (ws.foldl DA.lay M).now = M.now ∧ (ws.foldl DA.lay M).torn = M.torn ∧ (ws.foldl DA.lay M).fuse = M.fuse ∧ (ws.foldl DA.lay M).down = M.down ∧ (ws.foldl DA.lay M).work = M.work
  | [], M => ⟨rfl, rfl, rfl, rfl, rfl, rfl, rfl⟩
  | x :: t, M => by
    obtain ⟨h1, h2, h3, h4, h5, h6, h7⟩ := fold_safe t (M.lay x)
    exact ⟨h1, h2, h3, h4, h5, h6, h7⟩
/-- A Sync that is done. -/
theorem LR.sync (h : LR w W S v6 v7 v8 fuse down steps M) (hd : M.down = false) (hf : M.fuse ≠ 1) : LR w W S v6 v6 (.slice none 0 0) M.step.fuse M.step.down M.step.work M.sy := by
  have es : M.step.now = M.now ∧ M.step.torn = M.torn ∧ M.step.safe = M.safe ∧ M.step.bad = M.bad ∧ M.step.wait = M.wait := by
    unfold DA.step; split
    · exact ⟨rfl, rfl, rfl, rfl, rfl⟩
    · split <;> exact ⟨rfl, rfl, rfl, rfl, rfl⟩
  obtain ⟨e1, e2, e3, e4, e5⟩ := es
  obtain ⟨q1, q2, q3, q4, q5, q6, q7⟩ := fold_safe M.step.wait M.step
  have e : M.sy = { M.step.wait.foldl DA.lay M.step with wait := [] } := by
    unfold DA.sy
    rw [hd, if_neg (by decide), if_neg hf]
  have s1 : (M.step.wait.foldl DA.lay M.step).safe = M.now := by rw [q1, e5, e3, h.l1]
  have s2 : (M.step.wait.foldl DA.lay M.step).bad = M.torn := by rw [q2, e5, e4, h.l2]
  have s3 : (M.step.wait.foldl DA.lay M.step).now = M.now := by rw [q3, e1]
  have s4 : (M.step.wait.foldl DA.lay M.step).torn = M.torn := by rw [q4, e2]
  rw [e]
  refine { n := ?_, s := ?_, wt := ⟨[], FR.nil W, trivial⟩, f := q5.symm, d := q6.symm, k := q7.symm, l1 := ?_, l2 := ?_, t1 := ?_, t2 := ?_, t3 := ?_, t4 := ?_ }
  · show SR _ _ W v6 (NS (M.step.wait.foldl DA.lay M.step).now (M.step.wait.foldl DA.lay M.step).torn)
    rw [s3, s4]; exact h.n
  · show SR _ _ W v6 (NS (M.step.wait.foldl DA.lay M.step).safe (M.step.wait.foldl DA.lay M.step).bad)
    rw [s1, s2]; exact h.n
  · exact s1.trans s3.symm
  · exact s2.trans s4.symm
  · show (M.step.wait.foldl DA.lay M.step).torn.length = (M.step.wait.foldl DA.lay M.step).now.length
    rw [s3, s4]; exact h.t1
  · show (M.step.wait.foldl DA.lay M.step).safe.length = (M.step.wait.foldl DA.lay M.step).now.length
    rw [s1, s3]
  · show (M.step.wait.foldl DA.lay M.step).bad.length = (M.step.wait.foldl DA.lay M.step).now.length
    rw [s2, s3]; exact h.t1
  · show (M.step.wait.foldl DA.lay M.step).now.length ≤ _
    rw [s3]; exact h.t4
/-- A Sync at which the power goes. -/
theorem LR.sync1 (h : LR w W S v6 v7 v8 fuse down steps M) (hd : M.down = false) (hf : M.fuse = 1) : LR w W S v6 v7 v8 0 true steps M.sy := by
  have e : M.sy = { M with fuse := 0, down := true } := by
    unfold DA.sy DA.step
    rw [hd, if_neg (by decide), if_pos hf]
    rw [if_pos hf]
  rw [e]
  exact { h with f := rfl, d := rfl }
theorem onK_len (keep : List Bool) (tear : Int) (M : DA) : ∀ k, (DA.onK keep tear M k).safe.length = M.safe.length ∧ (DA.onK keep tear M k).bad.length = M.bad.length ∧ (DA.onK keep tear M k).work = M.work
  | 0 => ⟨rfl, rfl, rfl⟩
  | k + 1 => by
    obtain ⟨h1, h2, h3⟩ := onK_len keep tear M k
    show (DA.onP keep tear (DA.onK keep tear M k) k (M.wait.getD k (0, []))).safe.length = _ ∧ (DA.onP keep tear (DA.onK keep tear M k) k (M.wait.getD k (0, []))).bad.length = _ ∧ (DA.onP keep tear (DA.onK keep tear M k) k (M.wait.getD k (0, []))).work = _
    unfold DA.onP DA.lay
    split
    · exact ⟨by rw [← h1]; exact List.length_set .., by rw [← h2]; exact List.length_set .., h3⟩
    · split
      · exact ⟨h1, by rw [← h2]; exact List.length_set .., h3⟩
      · exact ⟨h1, h2, h3⟩
/-- On: what stays is safe, and is there. -/
theorem LR.on (h : LR w W S v6 v7 v8 fuse down steps M) (keep : List Bool) (tear : Int) {v7' : Value} (h7 : SR w.heap.size (fun k => ¬ S k) W v7' (NS (DA.onK keep tear M M.wait.length).safe (DA.onK keep tear M M.wait.length).bad)) : LR w W S v7' v7' (.slice none 0 0) 0 false steps (M.on keep tear) := by
  obtain ⟨q1, q2, q3⟩ := onK_len keep tear M M.wait.length
  refine { n := h7, s := h7, wt := ⟨[], FR.nil W, trivial⟩, f := rfl, d := rfl, k := h.k.trans q3.symm, l1 := rfl, l2 := rfl, t1 := ?_, t2 := rfl, t3 := ?_, t4 := ?_ }
  · show (DA.onK keep tear M M.wait.length).bad.length = (DA.onK keep tear M M.wait.length).safe.length
    rw [q1, q2, h.t2, h.t3]
  · show (DA.onK keep tear M M.wait.length).bad.length = (DA.onK keep tear M M.wait.length).safe.length
    rw [q1, q2, h.t2, h.t3]
  · show (DA.onK keep tear M M.wait.length).safe.length ≤ _
    rw [q1, h.t2]; exact h.t4
theorem LR.off (h : LR w W S v6 v7 v8 fuse down steps M) : LR w W S v6 v7 v8 fuse true steps M.off := { h with d := rfl }
theorem LR.setf (h : LR w W S v6 v7 v8 fuse down steps M) (hd : M.down = false) (n : Int) : LR w W S v6 v7 v8 (if n ≤ 0 then 0 else n) down steps (M.setFuse n) := by
  have e : M.setFuse n = { M with fuse := if n ≤ 0 then 0 else n } := by unfold DA.setFuse; rw [if_neg (by rw [hd]; decide)]
  rw [e]
  exact { h with f := rfl }
theorem LR.setf1 (h : LR w W S v6 v7 v8 fuse down steps M) (hd : M.down = true) (n : Int) : LR w W S v6 v7 v8 fuse down steps (M.setFuse n) := by
  have e : M.setFuse n = M := by unfold DA.setFuse; rw [if_pos hd]
  rw [e]; exact h
/-- The fields of a step. -/
theorem step_of (M : DA) (hw : 0 ≤ M.work) (hw2 : M.work < 1000000) : (M.fuse = 1 ∧ M.step.fuse = 0 ∧ M.step.down = true ∧ M.step.work = M.work) ∨ (M.fuse ≠ 1 ∧ 0 < M.fuse ∧ M.step.fuse = M.fuse - 1 ∧ M.step.down = M.down ∧ M.step.work = M.work + 1) ∨ (M.fuse ≠ 1 ∧ ¬ 0 < M.fuse ∧ M.step.fuse = M.fuse ∧ M.step.down = M.down ∧ M.step.work = M.work + 1) := by
  have e : wrap64 (M.work + 1) = M.work + 1 := by unfold wrap64; omega
  unfold DA.step
  by_cases h1 : M.fuse = 1
  · rw [if_pos h1]; exact .inl ⟨h1, rfl, rfl, rfl⟩
  · rw [if_neg h1]
    by_cases h2 : 0 < M.fuse
    · rw [if_pos h2]; exact .inr (.inl ⟨h1, h2, rfl, rfl, e⟩)
    · rw [if_neg h2]; exact .inr (.inr ⟨h1, h2, rfl, rfl, e⟩)
end
end Go.Proofs.Ytihmfccpgahmaaa.Dk
