/- The disk, told without its memory: one contract for each method. No conditions beyond those that a contract names. -/
import Derived.Test.YtihmfccpgahmaaaDkOn
import Derived.Test.YtihmfccpgahmaaaDkRead
namespace Go.Proofs.Ytihmfccpgahmaaa.Dk
open Go Go.RowKit Go.Proofs.YtihmfccpgahmaaaW.PrintWords Go.Proofs.YtihmfccpgahmaaaW.PrintMore Go.Proofs.YtihmfccpgahmaaaW.PrintLast
set_option linter.unusedVariables false
set_option linter.unusedSimpArgs false

structure DA where
  now : List (List Int)
  torn : List Bool
  safe : List (List Int)
  bad : List Bool
  wait : List (Int × List Int)
  fuse : Int
  down : Bool
  work : Int
def DkS.a (D : DkS) : DA := ⟨D.now.map Sec.b, D.torn, D.safe.map Sec.b, D.bad, D.wait.map (fun x => (x.at_, x.s.b)), D.fuse, D.down, D.work⟩
namespace DA
def new (n : Nat) : DA := ⟨List.replicate n [], List.replicate n false, List.replicate n [], List.replicate n false, [], 0, false, 0⟩
def ask (M : DA) (i : Int) : Int := if i < 0 ∨ (M.now.length : Int) ≤ i then 1 else if M.down = true then 8 else 0
def stepE (M : DA) : Int := if M.fuse = 1 then 8 else 0
def step (M : DA) : DA := if M.fuse = 1 then { M with fuse := 0, down := true } else if 0 < M.fuse then { M with fuse := M.fuse - 1, work := wrap64 (M.work + 1) } else { M with work := wrap64 (M.work + 1) }
def put (M : DA) (i : Int) (l : List Int) : DA := { M with now := M.now.set i.toNat l, torn := M.torn.set i.toNat false, wait := M.wait ++ [(i, l)] }
def wrE (M : DA) (i : Int) (n : Nat) : Int := if M.ask i = 1 ∨ 512 < n then 1 else if M.ask i = 0 then M.stepE else M.ask i
def wr (M : DA) (i : Int) (l : List Int) : DA := if M.ask i = 0 ∧ l.length ≤ 512 then M.step.put i l else M
def lay (M : DA) (x : Int × List Int) : DA := { M with safe := M.safe.set x.1.toNat x.2, bad := M.bad.set x.1.toNat false }
def syE (M : DA) : Int := if M.down = true then 8 else M.stepE
def sy (M : DA) : DA := if M.down = true then M else if M.fuse = 1 then M.step else { M.step.wait.foldl lay M.step with wait := [] }
def onP (keep : List Bool) (tear : Int) (M : DA) (k : Nat) (x : Int × List Int) : DA := if keep.getD k false = true then lay M x else if (k : Int) = tear then { M with bad := M.bad.set x.1.toNat true } else M
def onK (keep : List Bool) (tear : Int) (M : DA) : Nat → DA
  | 0 => M
  | k + 1 => onP keep tear (onK keep tear M k) k (M.wait.getD k (0, []))
def on (keep : List Bool) (tear : Int) (M : DA) : DA := { onK keep tear M M.wait.length with now := (onK keep tear M M.wait.length).safe, torn := (onK keep tear M M.wait.length).bad, wait := [], fuse := 0, down := false }
def off (M : DA) : DA := { M with down := true }
def setFuse (M : DA) (n : Int) : DA := if M.down = true then M else { M with fuse := if n ≤ 0 then 0 else n }
def rdE (M : DA) (i : Int) : Int := if M.ask i = 0 then (if rdOf false M.torn i = true then 9 else 0) else M.ask i
def rdB (M : DA) (i : Int) : List Int := if M.rdE i = 0 then wholeF (rdOf [] M.now i) else []
end DA

section
variable {D : DkS}
theorem a_ask (i : Int) : askF D i = D.a.ask i := by
  unfold askF DA.ask
  rw [show D.a.now.length = D.now.length by simp [DkS.a]]
  rfl
theorem a_stepE : Dk.stepE D = D.a.stepE := rfl
theorem a_step : (stepD D).a = D.a.step := by
  unfold stepD DA.step
  by_cases h1 : D.fuse = 1
  · rw [if_pos h1, if_pos (show D.a.fuse = 1 from h1)]; rfl
  · rw [if_neg h1, if_neg (show ¬ D.a.fuse = 1 from h1)]
    by_cases h2 : 0 < D.fuse
    · rw [if_pos h2, if_pos (show 0 < D.a.fuse from h2)]; rfl
    · rw [if_neg h2, if_neg (show ¬ 0 < D.a.fuse from h2)]; rfl
theorem a_wr (i : Int) (s : Sec) (h : D.a.ask i = 0) (h5 : s.b.length ≤ 512) : (wrD D i s).a = D.a.wr i s.b := by
  unfold DA.wr
  rw [if_pos ⟨h, h5⟩, ← a_step]
  have h2 := stepD_wait D
  unfold wrD mid DA.put DkS.a
  simp only [cond_true, List.map_set, List.map_append, List.map_cons, List.map_nil, h2]
theorem a_putW (x : Wt) : (putW D x).a = D.a.lay (x.at_, x.s.b) := by
  unfold putW DA.lay DkS.a
  simp only [List.map_set]
theorem a_fold (l : List Wt) : ∀ D : DkS, (l.foldl putW D).a = (l.map (fun x => (x.at_, x.s.b))).foldl DA.lay D.a := by
  induction l with
  | nil => intro D; rfl
  | cons x l ih => intro D; simp only [List.foldl_cons, List.map_cons]; rw [ih, a_putW]
theorem a_sy (hd : D.down = false) (hs : Dk.stepE D = 0) : ({ synK (stepD D) (stepD D).wait.length with wait := [] } : DkS).a = D.a.sy := by
  unfold DA.sy
  have hf : ¬ D.a.fuse = 1 := by
    intro h
    unfold Dk.stepE at hs
    rw [if_pos (show D.fuse = 1 from h)] at hs
    cases hs
  rw [if_neg (show ¬ D.a.down = true by show ¬ D.down = true; rw [hd]; decide), if_neg hf, ← a_step]
  unfold synK
  rw [List.take_length]
  have h := a_fold (stepD D).wait (stepD D)
  show ({ (List.foldl putW (stepD D) (stepD D).wait).a with wait := [] } : DA) = _
  rw [h]
  rfl
theorem a_onP (keep : List Bool) (tear : Int) (k : Nat) (x : Wt) : (Dk.onP keep tear D k x).a = DA.onP keep tear D.a k (x.at_, x.s.b) := by
  unfold Dk.onP DA.onP
  split
  · exact a_putW x
  · split
    · unfold DkS.a; rfl
    · rfl
theorem a_onK (keep : List Bool) (tear : Int) (k : Nat) : (Dk.onK keep tear D k).a = DA.onK keep tear D.a k := by
  induction k with
  | zero => rfl
  | succ k ih =>
    show (Dk.onP keep tear (Dk.onK keep tear D k) k (D.wait.getD k ⟨0, Sec.nil⟩)).a = DA.onP keep tear (DA.onK keep tear D.a k) k (D.a.wait.getD k (0, []))
    rw [a_onP, ih]
    congr 1
    show _ = (D.wait.map (fun x => (x.at_, x.s.b))).getD k (0, [])
    simp only [List.getD_eq_getElem?_getD, List.getElem?_map]
    cases D.wait[k]? <;> rfl
theorem a_on (keep : List Bool) (tear : Int) : (onD keep tear D).a = D.a.on keep tear := by
  unfold onD DA.on
  have hl : D.a.wait.length = D.wait.length := by simp [DkS.a]
  rw [hl, ← a_onK]
  rfl
theorem a_fuse (n : Int) : (fuseD D n).a = D.a.setFuse n := by
  unfold fuseD DA.setFuse
  by_cases h : D.down = true
  · rw [if_pos h, if_pos (show D.a.down = true from h)]
  · rw [if_neg h, if_neg (show ¬ D.a.down = true from h)]; rfl
theorem a_rdE (i : Int) : readE D i = D.a.rdE i := by
  unfold readE DA.rdE
  rw [a_ask]
  rfl
theorem rd_map {α β : Type} (f : α → β) (d : α) (l : List α) (i : Int) : rdOf (f d) (l.map f) i = f (rdOf d l i) := by
  unfold rdOf
  simp only [List.getD_eq_getElem?_getD, List.getElem?_map]
  cases l[i.toNat]? <;> rfl
theorem a_rdB (i : Int) : readB D i = D.a.rdB i := by
  unfold readB DA.rdB
  rw [a_rdE]
  have : rdOf [] D.a.now i = (rdOf Sec.nil D.now i).b := rd_map Sec.b Sec.nil D.now i
  rw [this]
theorem a_new (n : Nat) : (newD n).a = DA.new n := by
  unfold newD DA.new DkS.a
  simp [Sec.nil]
end

/-- A disk at block g of w: what it holds, told without memory; its blocks satisfy S. -/
def IsA (w : World) (base g : Nat) (S : Nat → Prop) (M : DA) : Prop := ∃ D r, IsD w base g S D r ∧ D.a = M
section
variable {w W w0 : World} {base g : Nat} {S S' : Nat → Prop} {M : DA}
theorem IsA.step (h : IsA w base g S M) (hsz : w.heap.size ≤ W.heap.size) (hm : ∀ k, S k → k < w.heap.size → W.heap[k]? = w.heap[k]?) : IsA W base g S M := by
  obtain ⟨D, r, h1, h2⟩ := h
  exact ⟨D, r, h1.step hsz hm, h2⟩
theorem IsA.kept (h : IsA w base g S M) (hk : Kept w W S') (hne : ∀ k, S k → ¬ S' k) : IsA W base g S M := h.step hk.size (fun k hs hlt => hk.block k hlt (hne k hs))
theorem IsA.below (h : IsA w base g S M) (hb : Below w.heap.size w W) : IsA W base g S M := h.step hb.size (fun k _ hlt => hb.block k hlt)
theorem IsA.mono (h : IsA w base g S M) (hs : ∀ k, S k → S' k) (hb : ∀ k, S' k → base ≤ k ∧ k < w.heap.size) : IsA w base g S' M := by
  obtain ⟨D, r, h1, h2⟩ := h
  exact ⟨D, r, h1.mono hs hb, h2⟩
theorem IsA.bound (h : IsA w base g S M) : ∀ k, S k → base ≤ k ∧ k < w.heap.size := by
  obtain ⟨D, r, h1, h2⟩ := h
  exact h1.bound
theorem IsA.sg (h : IsA w base g S M) : S g := by
  obtain ⟨D, r, h1, h2⟩ := h
  exact h1.sg
theorem IsA.len (h : IsA w base g S M) : M.torn.length = M.now.length ∧ M.safe.length = M.now.length ∧ M.bad.length = M.now.length ∧ M.now.length ≤ 65536 := by
  obtain ⟨D, r, h1, rfl⟩ := h
  have := h1.lt
  have := h1.ls
  have := h1.lb
  have := h1.ln
  simp only [DkS.a, List.length_map]
  omega
theorem IsA.fit (h : IsA w base g S M) : (∀ s ∈ M.now, s.length ≤ 512) ∧ (∀ s ∈ M.safe, s.length ≤ 512) ∧ (∀ x ∈ M.wait, x.2.length ≤ 512) ∧ (∀ x ∈ M.wait, 0 ≤ x.1 ∧ x.1 < M.now.length) := by
  obtain ⟨D, r, h1, rfl⟩ := h
  refine ⟨fun s hs => ?_, fun s hs => ?_, fun s hs => ?_, fun s hs => ?_⟩ <;> obtain ⟨x, hx, rfl⟩ := List.mem_map.1 hs
  · exact h1.fnow x hx
  · exact h1.fsafe x hx
  · exact h1.fwait x hx
  · have := h1.lw x hx
    simpa [DkS.a] using this
/-- What a disk's call leaves of elder things. -/
theorem IsA.after (h : IsA w base g S M) (hk : Kept w W S) (hb : Below base w0 w) (hle : base ≤ w.heap.size) : Below base w0 W := hb.trans (hk.toBelow hle (fun k hk => (h.bound k hk).1))

theorem new_a (n : Int) (w : World) : Calls Try.prog 19 #[.int .i64 n] w fun e w' => ∃ g S, e = .returned (.pointer (some ⟨g, 0, none⟩)) ∧ IsA w' w.heap.size g S (DA.new (newN n).toNat) ∧ Below w.heap.size w w' := by
  refine (new_ok n w).mono ?_
  rintro e w' ⟨g, r, he, hi, hb⟩
  exact ⟨g, _, he, ⟨_, r, hi, a_new _⟩, hb⟩
theorem len_a (h : IsA w base g S M) : Calls Try.prog 31 #[.pointer (some ⟨g, 0, none⟩)] w fun e w' => e = .returned (.int .i64 (M.now.length : Int)) ∧ w' = w := by
  obtain ⟨D, r, h1, rfl⟩ := h
  have := len_ok h1
  rw [show D.now.length = D.a.now.length by simp [DkS.a]] at this
  exact this
theorem down_a (h : IsA w base g S M) : Calls Try.prog 29 #[.pointer (some ⟨g, 0, none⟩)] w fun e w' => e = .returned (.bool M.down) ∧ w' = w := by
  obtain ⟨D, r, h1, rfl⟩ := h
  exact down_ok h1
theorem steps_a (h : IsA w base g S M) : Calls Try.prog 30 #[.pointer (some ⟨g, 0, none⟩)] w fun e w' => e = .returned (.int .i64 M.work) ∧ w' = w := by
  obtain ⟨D, r, h1, rfl⟩ := h
  exact steps_ok h1
theorem waits_a (h : IsA w base g S M) : Calls Try.prog 25 #[.pointer (some ⟨g, 0, none⟩)] w fun e w' => e = .returned (.int .i64 (M.wait.length : Int)) ∧ w' = w := by
  obtain ⟨D, r, h1, rfl⟩ := h
  have := waits_ok h1
  rw [show D.wait.length = D.a.wait.length by simp [DkS.a]] at this
  exact this
theorem off_a (h : IsA w base g S M) : Calls Try.prog 24 #[.pointer (some ⟨g, 0, none⟩)] w fun e w' => e = .returned (.tuple #[]) ∧ IsA w' base g S M.off ∧ Kept w w' S := by
  obtain ⟨D, r, h1, rfl⟩ := h
  refine (off_ok h1).mono ?_
  rintro e w' ⟨he, hi, hk⟩
  exact ⟨he, ⟨_, r, hi, rfl⟩, hk⟩
theorem fuse_a (h : IsA w base g S M) (n : Int) (hn : n ≤ 9223372036854775807) : Calls Try.prog 28 #[.pointer (some ⟨g, 0, none⟩), .int .i64 n] w fun e w' => e = .returned (.tuple #[]) ∧ IsA w' base g S (M.setFuse n) ∧ Kept w w' S := by
  obtain ⟨D, r, h1, rfl⟩ := h
  refine (fuse_ok h1 n hn).mono ?_
  rintro e w' ⟨he, hi, hk, _⟩
  exact ⟨he, ⟨_, r, hi, a_fuse n⟩, hk⟩
theorem read_a (h : IsA w base g S M) (i : Int) : Calls Try.prog 23 #[.pointer (some ⟨g, 0, none⟩), .int .i64 i] w fun e w' => ∃ s : Sec, e = .returned (.tuple #[s.v, .int .i64 (M.rdE i)]) ∧ s.b = M.rdB i ∧ Own w' w.heap.size (fun _ => True) s ∧ Below w.heap.size w w' := by
  obtain ⟨D, r, h1, rfl⟩ := h
  refine (read_ok h1 i).mono ?_
  rintro e w' ⟨s, he, hs, ho, hb⟩
  exact ⟨s, by rw [← a_rdE]; exact he, by rw [← a_rdB]; exact hs, ho, hb⟩
theorem write_a (h : IsA w base g S M) (i : Int) (A : Option Addr) (c : Nat) (l : List Int) (hC0 : ∀ W', Kept w W' S → Kd.C (Kd.int .u8) W' A l.length l) (hc0 : l.length ≤ c) (hba0 : base ≤ w.heap.size) (hw0 : M.wait.length < 1000000) :
    Calls Try.prog 20 #[.pointer (some ⟨g, 0, none⟩), .int .i64 i, .slice A l.length c] w fun e w' => e = .returned (.int .i64 (M.wrE i l.length)) ∧ ∃ S', IsA w' base g S' (M.wr i l) ∧ (∀ k, S' k → S k ∨ w.heap.size ≤ k) ∧ Kept w w' S := by
  obtain ⟨D, r, h1, rfl⟩ := h
  by_cases hok : D.a.ask i = 0 ∧ l.length ≤ 512
  · obtain ⟨ha, h5⟩ := hok
    refine (write_ok h1 i A c l hC0 hc0 h5 (by rw [a_ask]; exact ha) hba0 (by simpa [DkS.a] using hw0)).mono ?_
    rintro e w' ⟨he, s, r', hs, hi, hk⟩
    refine ⟨?_, _, ⟨_, r', hi, ?_⟩, fun k hk2 => hk2.imp id (fun h2 => h2.1), hk⟩
    · rw [he, a_stepE]
      unfold DA.wrE
      rw [if_neg (by omega), if_pos ha]
    · rw [← hs]
      exact a_wr i s ha (by rw [hs]; exact h5)
  · refine (write_no h1 i A c l (by rw [a_ask]; exact (Nat.lt_or_ge 512 l.length).elim .inr (fun h => .inl (fun h2 => hok ⟨h2, h⟩)))).mono ?_
    rintro e w' ⟨he, rfl⟩
    refine ⟨?_, S, ⟨D, r, h1, ?_⟩, fun k hk => .inl hk, Kept.refl _ _⟩
    · rw [he]
      unfold Dk.wrE DA.wrE
      rw [a_ask, a_stepE]
    · unfold DA.wr
      rw [if_neg hok]
theorem sync_a (h : IsA w base g S M) (hba0 : base ≤ w.heap.size) (hw0 : M.wait.length ≤ 1000000) :
    Calls Try.prog 21 #[.pointer (some ⟨g, 0, none⟩)] w fun e w' => e = .returned (.int .i64 M.syE) ∧ IsA w' base g S M.sy ∧ Kept w w' S := by
  obtain ⟨D, r, h1, rfl⟩ := h
  cases hd : D.down with
  | true =>
    refine (sync_down h1 hd).mono ?_
    rintro e w' ⟨he, rfl⟩
    refine ⟨?_, ⟨D, r, h1, ?_⟩, Kept.refl _ _⟩
    · rw [he]; unfold DA.syE; rw [if_pos (show D.a.down = true from hd)]
    · unfold DA.sy; rw [if_pos (show D.a.down = true from hd)]
  | false =>
    have hd' : ¬ D.a.down = true := by show ¬ D.down = true; rw [hd]; decide
    by_cases hs : Dk.stepE D = 0
    · refine (sync_ok h1 hd hs hba0 (by simpa [DkS.a] using hw0)).mono ?_
      rintro e w' ⟨he, r', hi, hk⟩
      refine ⟨?_, ⟨_, r', hi, a_sy hd hs⟩, hk⟩
      rw [he]; unfold DA.syE; rw [if_neg hd', ← a_stepE, hs]
    · refine (sync_goes h1 hd hs).mono ?_
      rintro e w' ⟨he, hi, hk, _⟩
      refine ⟨?_, ⟨_, r, hi, ?_⟩, hk⟩
      · rw [he]; unfold DA.syE; rw [if_neg hd', ← a_stepE]
      · unfold DA.sy
        have hf : D.a.fuse = 1 := by
          show D.fuse = 1
          unfold Dk.stepE at hs
          by_cases h : D.fuse = 1
          · exact h
          · rw [if_neg h] at hs; exact absurd rfl hs
        rw [if_neg hd', if_pos hf, a_step]
theorem on_a (h : IsA w base g S M) (kA : Option Addr) (kc : Nat) (keep : List Bool) (hC0 : ∀ W', Kept w W' S → Kd.C Kd.bool W' kA keep.length keep) (hkc0 : keep.length ≤ 9223372036854775807) (tear : Int) (hba0 : base ≤ w.heap.size) (hwn0 : M.wait.length ≤ 1000000) :
    Calls Try.prog 22 #[.pointer (some ⟨g, 0, none⟩), .slice kA keep.length kc, .int .i64 tear] w fun e w' => e = .returned (.tuple #[]) ∧ IsA w' base g S (M.on keep tear) ∧ Kept w w' S := by
  obtain ⟨D, r, h1, rfl⟩ := h
  refine (on_ok h1 kA kc keep hC0 hkc0 tear hba0 (by simpa [DkS.a] using hwn0)).mono ?_
  rintro e w' ⟨he, r', hi, hk⟩
  exact ⟨he, ⟨_, r', hi, a_on keep tear⟩, hk⟩
end
end Go.Proofs.Ytihmfccpgahmaaa.Dk
