/- The disk of package disk: what it holds in memory, and what its small methods do, walked. No conditions beyond those that a contract names. -/
import Derived.Test.YtihmfccpgahmaaaProg
import Derived.Below
import Derived.OwnWalk
import Derived.Tactics
import Derived.WalkKit
import Derived.KernelRfl
import Derived.RowKit3
import Derived.Deep.LoopGhost
import Derived.Deep.QuietTactic
import Derived.BigQuiet
import Derived.RegionTactic
import Derived.LoopTactic
import Derived.WalkSpells
import Derived.Laws.Cover1
import Derived.Test.YtihmfccpgahmaaaWKept
import Derived.Test.YtihmfccpgahmaaaWFoot
import Derived.Test.YtihmfccpgahmaaaWMore
namespace Go.Proofs.Ytihmfccpgahmaaa.Dk
open Go Go.RowKit Go.Proofs.YtihmfccpgahmaaaW.PrintWords Go.Proofs.YtihmfccpgahmaaaW.PrintMore
set_option linter.unusedVariables false
set_option linter.unusedSimpArgs false

/-- All blocks but those of S are kept, and so are the streams. (For the kit's own word, which speaks of blocks alone.) -/
structure Kept (w W : World) (S : Nat → Prop) : Prop where
  size : w.heap.size ≤ W.heap.size
  block : ∀ i, i < w.heap.size → ¬ S i → W.heap[i]? = w.heap[i]?
  os : W.os = w.os
  tape : W.tape = w.tape
  output : W.output = w.output
section
variable {w W W2 : World} {S S2 S' : Nat → Prop}
theorem Kept.refl (w : World) (S : Nat → Prop) : Kept w w S := ⟨Nat.le_refl _, fun _ _ _ => rfl, rfl, rfl, rfl⟩
theorem Kept.of_below (h : Below w.heap.size w W) (S : Nat → Prop) : Kept w W S := ⟨h.size, fun i hi _ => h.block i hi, h.os, h.tape, h.output⟩
theorem Kept.mono (h : Kept w W S) (hs : ∀ k, S k → S' k) : Kept w W S' := ⟨h.size, fun i hi hn => h.block i hi (fun hk => hn (hs i hk)), h.os, h.tape, h.output⟩
theorem Kept.then_ (h : Kept w W S) (k : Kept W W2 S2) (hs : ∀ k, S2 k → S k ∨ w.heap.size ≤ k) : Kept w W2 S :=
  ⟨Nat.le_trans h.size k.size, fun i hi hn => (k.block i (Nat.lt_of_lt_of_le hi h.size) (fun h2 => (hs i h2).elim hn (fun h3 => by omega))).trans (h.block i hi hn), k.os.trans h.os, k.tape.trans h.tape, k.output.trans h.output⟩
theorem Kept.of_grown {row : Option Nat} (hg : W.grownBy W2 row) (h : Kept w W S) (hr : ∀ k, row = some k → S k ∨ w.heap.size ≤ k) : Kept w W2 S :=
  h.then_ (S2 := fun k => row = some k) ⟨hg.size, fun i hi hn => hg.block i hi (fun he => hn he.symm), hg.os, hg.tape, hg.output⟩ hr
theorem Kept.below (h : Kept w W S) (hb : Below W.heap.size W W2) : Kept w W2 S := h.then_ (Kept.of_below hb (fun _ => False)) (fun _ hk => hk.elim)
theorem Kept.alloc (h : Kept w W S) (o : Obj) : Kept w (W.alloc o) S := h.below (below_alloc (Below.refl _ _) o)
theorem Kept.drew (h : Kept w W S) : Kept w W.drew S := ⟨h.size, h.block, h.os, h.tape, h.output⟩
theorem Kept.drewN (h : Kept w W S) (m : Nat) : Kept w (W.drewN m) S := h.below (pw_below_drewN (Below.refl _ _) m)
theorem Kept.setCell (h : Kept w W S) {p : Addr} (hp : S p.block ∨ w.heap.size ≤ p.block) (u : Value) : Kept w (W.setCell p u) S :=
  h.then_ (S2 := fun k => k = p.block) ⟨by simp [World.setCell], fun i _ hn => Below.heap_setCell W p u i hn, rfl, rfl, rfl⟩ (fun k hk => by rw [hk]; exact hp)
/-- Below what is written all is kept. -/
theorem Kept.toBelow (h : Kept w W S) {B : Nat} (hB : B ≤ w.heap.size) (hS : ∀ k, S k → B ≤ k) : Below B w W := ⟨h.os, h.tape, h.output, h.size, fun k hk => h.block k (by omega) (fun h2 => by have := hS k h2; omega)⟩
end
/-- A sector's bytes, and where they lie. -/
structure Sec where
  a : Option Addr
  c : Nat
  b : List Int
def Sec.v (s : Sec) : Value := .slice s.a s.b.length s.c
def Sec.nil : Sec := ⟨none, 0, []⟩
def kSec : Kd Sec := Kd.scalar Sec.v (fun _ => rfl)
/-- What was written, and isn't safe. -/
structure Wt where
  at_ : Int
  s : Sec
def kWt : Kd Wt := Kd.iso (Kd.pair (Kd.int .i64) kSec) (fun x => (x.at_, x.s))
structure DkS where
  now : List Sec
  torn : List Bool
  safe : List Sec
  bad : List Bool
  wait : List Wt
  fuse : Int
  down : Bool
  work : Int

/-- A sector's bytes are a row of the disk's own. -/
def Own (w : World) (base : Nat) (S : Nat → Prop) (s : Sec) : Prop := (Kd.int .u8).R 5 w base S s.v s.b

/-- What stands where in a disk: the rows' values. -/
structure Rws where
  n : Value
  t : Value
  s : Value
  b : Value
  w : Value

/-- A disk at block g of w; its blocks satisfy S, all of them made from base on. -/
structure IsD (w : World) (base g : Nat) (S : Nat → Prop) (D : DkS) (r : Rws) : Prop where
  blk : w.heap[g]? = some (.cells #[r.n, r.t, r.s, r.b, r.w, .int .i64 D.fuse, .bool D.down, .int .i64 D.work] 83 (0, 0))
  bound : ∀ k, S k → base ≤ k ∧ k < w.heap.size
  sg : S g
  now : kSec.R 22 w base (fun k => S k ∧ some k ≠ r.s.ownBlock) r.n D.now
  safe : kSec.R 22 w base (fun k => S k ∧ some k ≠ r.n.ownBlock) r.s D.safe
  torn : Kd.bool.R 4 w base (fun k => S k ∧ some k ≠ r.b.ownBlock) r.t D.torn
  bad : Kd.bool.R 4 w base (fun k => S k ∧ some k ≠ r.t.ownBlock) r.b D.bad
  wait : kWt.R 87 w base S r.w D.wait
  onow : ∀ s ∈ D.now, Own w base S s
  osafe : ∀ s ∈ D.safe, Own w base S s
  owait : ∀ x ∈ D.wait, Own w base S x.s
  fnow : ∀ s ∈ D.now, s.b.length ≤ 512
  fsafe : ∀ s ∈ D.safe, s.b.length ≤ 512
  fwait : ∀ x ∈ D.wait, x.s.b.length ≤ 512
  lt : D.torn.length = D.now.length
  ls : D.safe.length = D.now.length
  lb : D.bad.length = D.now.length
  lw : ∀ x ∈ D.wait, 0 ≤ x.at_ ∧ x.at_ < D.now.length
  ln : D.now.length ≤ 65536
  lf : 0 ≤ D.fuse ∧ D.fuse ≤ 9223372036854775807

section
variable {w W : World} {base g : Nat} {S S' : Nat → Prop} {D : DkS} {r : Rws}
theorem Own.step {s : Sec} (h : Own w base S s) (hm : ∀ k, S k → k < w.heap.size → W.heap[k]? = w.heap[k]?) : Own W base S s := Kd.R_step h hm
theorem Own.mono {s : Sec} (h : Own w base S s) (hs : ∀ k, S k → S' k) : Own w base S' s := Kd.R_mono h hs
/-- What leaves a disk's blocks leaves the disk. -/
theorem IsD.step (h : IsD w base g S D r) (hsz : w.heap.size ≤ W.heap.size) (hm : ∀ k, S k → k < w.heap.size → W.heap[k]? = w.heap[k]?) : IsD W base g S D r where
  blk := (hm g h.sg (h.bound g h.sg).2).trans h.blk
  bound k hk := ⟨(h.bound k hk).1, Nat.lt_of_lt_of_le (h.bound k hk).2 hsz⟩
  sg := h.sg
  now := Kd.R_step h.now (fun k hk => hm k hk.1)
  safe := Kd.R_step h.safe (fun k hk => hm k hk.1)
  torn := Kd.R_step h.torn (fun k hk => hm k hk.1)
  bad := Kd.R_step h.bad (fun k hk => hm k hk.1)
  wait := Kd.R_step h.wait hm
  onow s hs := (h.onow s hs).step hm
  osafe s hs := (h.osafe s hs).step hm
  owait s hs := (h.owait s hs).step hm
  fnow := h.fnow
  fsafe := h.fsafe
  fwait := h.fwait
  lt := h.lt
  ls := h.ls
  lb := h.lb
  lw := h.lw
  ln := h.ln
  lf := h.lf
theorem IsD.kept (h : IsD w base g S D r) (hk : Kept w W S') (hne : ∀ k, S k → ¬ S' k) : IsD W base g S D r := h.step hk.1 (fun k hs hlt => hk.2 k hlt (hne k hs))
theorem IsD.below (h : IsD w base g S D r) (hb : Below w.heap.size w W) : IsD W base g S D r := h.step hb.size (fun k _ hlt => hb.block k hlt)
theorem IsD.mono (h : IsD w base g S D r) (hs : ∀ k, S k → S' k) (hb : ∀ k, S' k → base ≤ k ∧ k < w.heap.size) : IsD w base g S' D r where
  blk := h.blk
  bound := hb
  sg := hs g h.sg
  now := Kd.R_mono h.now (fun k hk => ⟨hs k hk.1, hk.2⟩)
  safe := Kd.R_mono h.safe (fun k hk => ⟨hs k hk.1, hk.2⟩)
  torn := Kd.R_mono h.torn (fun k hk => ⟨hs k hk.1, hk.2⟩)
  bad := Kd.R_mono h.bad (fun k hk => ⟨hs k hk.1, hk.2⟩)
  wait := Kd.R_mono h.wait hs
  onow s hx := (h.onow s hx).mono hs
  osafe s hx := (h.osafe s hx).mono hs
  owait s hx := (h.owait s hx).mono hs
  fnow := h.fnow
  fsafe := h.fsafe
  fwait := h.fwait
  lt := h.lt
  ls := h.ls
  lb := h.lb
  lw := h.lw
  ln := h.ln
  lf := h.lf
theorem IsD.lower {base' : Nat} (h : IsD w base g S D r) (hb : base' ≤ base) : IsD w base' g S D r where
  blk := h.blk
  bound k hk := ⟨Nat.le_trans hb (h.bound k hk).1, (h.bound k hk).2⟩
  sg := h.sg
  now := Kd.R_lower h.now hb
  safe := Kd.R_lower h.safe hb
  torn := Kd.R_lower h.torn hb
  bad := Kd.R_lower h.bad hb
  wait := Kd.R_lower h.wait hb
  onow s hx := Kd.R_lower (h.onow s hx) hb
  osafe s hx := Kd.R_lower (h.osafe s hx) hb
  owait s hx := Kd.R_lower (h.owait s hx) hb
  fnow := h.fnow
  fsafe := h.fsafe
  fwait := h.fwait
  lt := h.lt
  ls := h.ls
  lb := h.lb
  lw := h.lw
  ln := h.ln
  lf := h.lf
/-- The numbers are written: the rest stays. -/
theorem IsD.numbers (h : IsD w base g S D r) {f : Int} {dn : Bool} {k : Int} (hf : 0 ≤ f ∧ f ≤ 9223372036854775807) (hsz : W.heap.size = w.heap.size) (hm : ∀ k, k ≠ g → W.heap[k]? = w.heap[k]?)
    (hb : W.heap[g]? = some (.cells #[r.n, r.t, r.s, r.b, r.w, .int .i64 f, .bool dn, .int .i64 k] 83 (0, 0))) : IsD W base g S { D with fuse := f, down := dn, work := k } r where
  blk := hb
  bound k hk := by rw [hsz]; exact h.bound k hk
  sg := h.sg
  now := Kd.R_mono (Kd.R_step (Kd.R_types h.now h.blk (by decide)) (fun k hk _ => hm k hk.2)) (fun _ hk => hk.1)
  safe := Kd.R_mono (Kd.R_step (Kd.R_types h.safe h.blk (by decide)) (fun k hk _ => hm k hk.2)) (fun _ hk => hk.1)
  torn := Kd.R_mono (Kd.R_step (Kd.R_types h.torn h.blk (by decide)) (fun k hk _ => hm k hk.2)) (fun _ hk => hk.1)
  bad := Kd.R_mono (Kd.R_step (Kd.R_types h.bad h.blk (by decide)) (fun k hk _ => hm k hk.2)) (fun _ hk => hk.1)
  wait := Kd.R_mono (Kd.R_step (Kd.R_types h.wait h.blk (by decide)) (fun k hk _ => hm k hk.2)) (fun _ hk => hk.1)
  onow s hs := Kd.R_mono (Kd.R_step (Kd.R_types (h.onow s hs) h.blk (by decide)) (fun k hk _ => hm k hk.2)) (fun _ hk => hk.1)
  osafe s hs := Kd.R_mono (Kd.R_step (Kd.R_types (h.osafe s hs) h.blk (by decide)) (fun k hk _ => hm k hk.2)) (fun _ hk => hk.1)
  owait s hs := Kd.R_mono (Kd.R_step (Kd.R_types (h.owait s hs) h.blk (by decide)) (fun k hk _ => hm k hk.2)) (fun _ hk => hk.1)
  fnow := h.fnow
  fsafe := h.fsafe
  fwait := h.fwait
  lt := h.lt
  ls := h.ls
  lb := h.lb
  lw := h.lw
  ln := h.ln
  lf := hf
end

/-- The disk's own word of a sector's length in a slice's value. -/
theorem row_len {α : Type} {d : Kd α} {e base : Nat} {ok : Nat → Prop} {w : World} {v : Value} {xs : List α} (h : d.R e w base ok v xs) : ∃ A c, v = .slice A xs.length c ∧ xs.length ≤ c := by
  obtain ⟨A, c, he, hl, _⟩ := Kd.R_reads h
  exact ⟨A, c, he, hl⟩

section
variable {w w0 : World} {base g : Nat} {S : Nat → Prop} {D : DkS} {r : Rws}

theorem len_ok (h : IsD w base g S D r) : Calls Try.prog 31 #[.pointer (some ⟨g, 0, none⟩)] w fun e w' => e = .returned (.int .i64 (D.now.length : Int)) ∧ w' = w := by
  obtain ⟨A, c, hv, hl⟩ := row_len h.now
  have c0 : w.cell? ⟨g, 0, none⟩ = some (.slice A D.now.length c) := (blk_cell h.blk 0).trans (by rw [hv]; rfl)
  clear h hv hl
  go_enter Try.func31, Try.ntmps31
  go_wp2
  go_ret
  exact ⟨rfl, rfl⟩

theorem nil_len : Calls Try.prog 31 #[.pointer none] w fun e w' => e = .returned (.int .i64 0) ∧ w' = w := by
  go_enter Try.func31, Try.ntmps31
  go_wp2
  go_ret
  exact ⟨rfl, rfl⟩

/-- Why nothing can be done with a sector. -/
def askF (D : DkS) (at_ : Int) : Int := if at_ < 0 ∨ (D.now.length : Int) ≤ at_ then 1 else if D.down = true then 8 else 0

theorem ask_ok (h : IsD w base g S D r) (i : Int) : Calls Try.prog 50 #[.pointer (some ⟨g, 0, none⟩), .int .i64 i] w fun e w' => e = .returned (.int .i64 (askF D i)) ∧ w' = w := by
  have c6 : w.cell? ⟨g, 6, none⟩ = some (.bool D.down) := (blk_cell h.blk 6).trans rfl
  have hL := Aside0.mk (len_ok h)
  clear h
  by_cases h0 : i < 0
  · have t1 : decide (i < 0) = true := decide_eq_true h0
    have e : askF D i = 1 := if_pos (.inl h0)
    clear h0
    go_enter Try.func50, Try.ntmps50
    go_wp2
    go_ret
    exact ⟨by rw [e]; rfl, rfl⟩
  · have t1 : decide (i < 0) = false := decide_eq_false h0
    by_cases h1 : (D.now.length : Int) ≤ i
    · have t2 : decide ((D.now.length : Int) ≤ i) = true := decide_eq_true h1
      have e : askF D i = 1 := if_pos (.inr h1)
      have e' := Aside0.mk e
      clear h0 h1 e
      go_enter Try.func50, Try.ntmps50
      go_wp2_with fail
      refine hL.out.mono ?_
      rintro e w' ⟨rfl, rfl⟩
      go_wp2
      go_ret
      exact ⟨by rw [e'.out]; rfl, rfl⟩
    · have t2 : decide ((D.now.length : Int) ≤ i) = false := decide_eq_false h1
      have e : askF D i = if D.down = true then 8 else 0 := if_neg (by omega)
      have e' := Aside0.mk e
      clear h0 h1 e
      cases hd : D.down <;> rw [hd] at c6 e'
      all_goals
        go_enter Try.func50, Try.ntmps50
        go_wp2_with fail
        refine hL.out.mono ?_
        rintro e w' ⟨rfl, rfl⟩
        go_wp2
        go_ret
        exact ⟨by rw [e'.out]; rfl, rfl⟩

theorem nil_ask (i : Int) : Calls Try.prog 50 #[.pointer none, .int .i64 i] w fun e w' => e = .returned (.int .i64 1) ∧ w' = w := by
  have hL := Aside0.mk (nil_len (w := w))
  by_cases h0 : i < 0
  · have t1 : decide (i < 0) = true := decide_eq_true h0
    clear h0
    go_enter Try.func50, Try.ntmps50
    go_wp2
    go_ret
    exact ⟨rfl, rfl⟩
  · have t1 : decide (i < 0) = false := decide_eq_false h0
    have t2 : decide ((0 : Int) ≤ i) = true := decide_eq_true (by omega)
    clear h0
    go_enter Try.func50, Try.ntmps50
    go_wp2_with fail
    refine hL.out.mono ?_
    rintro e w' ⟨rfl, rfl⟩
    go_wp2
    go_ret
    exact ⟨rfl, rfl⟩

theorem down_ok (h : IsD w base g S D r) : Calls Try.prog 29 #[.pointer (some ⟨g, 0, none⟩)] w fun e w' => e = .returned (.bool D.down) ∧ w' = w := by
  have c6 : w.cell? ⟨g, 6, none⟩ = some (.bool D.down) := (blk_cell h.blk 6).trans rfl
  clear h
  go_enter Try.func29, Try.ntmps29
  go_wp2
  go_ret
  exact ⟨rfl, rfl⟩

theorem steps_ok (h : IsD w base g S D r) : Calls Try.prog 30 #[.pointer (some ⟨g, 0, none⟩)] w fun e w' => e = .returned (.int .i64 D.work) ∧ w' = w := by
  have c7 : w.cell? ⟨g, 7, none⟩ = some (.int .i64 D.work) := (blk_cell h.blk 7).trans rfl
  clear h
  go_enter Try.func30, Try.ntmps30
  go_wp2
  go_ret
  exact ⟨rfl, rfl⟩

theorem waits_ok (h : IsD w base g S D r) : Calls Try.prog 25 #[.pointer (some ⟨g, 0, none⟩)] w fun e w' => e = .returned (.int .i64 (D.wait.length : Int)) ∧ w' = w := by
  obtain ⟨A, c, hv, hl⟩ := row_len h.wait
  have c4 : w.cell? ⟨g, 4, none⟩ = some (.slice A D.wait.length c) := (blk_cell h.blk 4).trans (by rw [hv]; rfl)
  clear h hv hl
  go_enter Try.func25, Try.ntmps25
  go_wp2
  go_ret
  exact ⟨rfl, rfl⟩

theorem off_ok (h : IsD w base g S D r) : Calls Try.prog 24 #[.pointer (some ⟨g, 0, none⟩)] w fun e w' => e = .returned (.tuple #[]) ∧ IsD w' base g S { D with down := true } r ∧ Kept w w' S := by
  have hI := Aside0.mk h
  have f6 : w.frozen? ⟨g, 6, none⟩ = false := blk_frozen h.blk 6
  have c6 : w.cell? ⟨g, 6, none⟩ = some (.bool D.down) := (blk_cell h.blk 6).trans rfl
  clear h
  go_enter Try.func24, Try.ntmps24
  go_wp2
  go_end0
  exact ⟨rfl, hI.out.numbers hI.out.lf (by simp [World.setCell]) (fun k hk => Below.heap_setCell _ _ _ _ hk) (blk_put hI.out.blk 6 _ rfl), (Kept.refl _ _).setCell (.inl hI.out.sg) _⟩

/-- One step: the power may go at it. -/
def stepE (D : DkS) : Int := if D.fuse = 1 then 8 else 0
def stepD (D : DkS) : DkS := if D.fuse = 1 then { D with fuse := 0, down := true } else if 0 < D.fuse then { D with fuse := D.fuse - 1, work := wrap64 (D.work + 1) } else { D with work := wrap64 (D.work + 1) }

theorem step_ok (h : IsD w base g S D r) : Calls Try.prog 51 #[.pointer (some ⟨g, 0, none⟩)] w fun e w' => e = .returned (.int .i64 (stepE D)) ∧ IsD w' base g S (stepD D) r ∧ Kept w w' S ∧ w'.heap.size = w.heap.size := by
  have hI := Aside0.mk h
  have f5 : w.frozen? ⟨g, 5, none⟩ = false := blk_frozen h.blk 5
  have f6 : w.frozen? ⟨g, 6, none⟩ = false := blk_frozen h.blk 6
  have f7 : w.frozen? ⟨g, 7, none⟩ = false := blk_frozen h.blk 7
  have c5 : w.cell? ⟨g, 5, none⟩ = some (.int .i64 D.fuse) := (blk_cell h.blk 5).trans rfl
  have c6 : w.cell? ⟨g, 6, none⟩ = some (.bool D.down) := (blk_cell h.blk 6).trans rfl
  have c7 : w.cell? ⟨g, 7, none⟩ = some (.int .i64 D.work) := (blk_cell h.blk 7).trans rfl
  obtain ⟨hf0, hf1⟩ := h.lf
  clear h
  by_cases h0 : 0 < D.fuse
  · have t0 : decide (0 < D.fuse) = true := decide_eq_true h0
    have hw : wrap64 (D.fuse - 1) = D.fuse - 1 := by unfold wrap64; omega
    by_cases h1 : D.fuse = 1
    · have t1 : (D.fuse - 1 == 0) = true := by rw [h1]; rfl
      have e1 : stepE D = 8 := if_pos h1
      have e2 : stepD D = { D with fuse := 0, down := true } := if_pos h1
      have e3 := Aside0.mk e1
      have e4 := Aside0.mk e2
      have e5 : D.fuse - 1 = 0 := by omega
      have e6 := Aside0.mk e5
      clear h0 h1 hf0 hf1 e1 e2 e5
      go_enter Try.func51, Try.ntmps51
      go_wp2
      go_ret
      rw [e3.out, e4.out]
      refine ⟨rfl, hI.out.numbers ⟨by omega, by omega⟩ (by simp [World.setCell]) (fun k hk => (Below.heap_setCell _ _ _ _ hk).trans (Below.heap_setCell _ _ _ _ hk)) ?_, ((Kept.refl _ _).setCell (.inl hI.out.sg) _).setCell (.inl hI.out.sg) _, by simp [World.setCell]⟩
      exact blk_put (blk_put hI.out.blk 5 _ rfl) 6 _ (by simp [e6.out])
    · have t1 : (D.fuse - 1 == 0) = false := beq_eq_false_iff_ne.mpr (by omega)
      have e1 : stepE D = 0 := if_neg h1
      have e2 : stepD D = { D with fuse := D.fuse - 1, work := wrap64 (D.work + 1) } := (if_neg h1).trans (if_pos h0)
      have e3 := Aside0.mk e1
      have e4 := Aside0.mk e2
      have e7 := Aside0.mk (show 0 ≤ D.fuse - 1 ∧ D.fuse - 1 ≤ 9223372036854775807 by omega)
      clear h0 h1 hf0 hf1 e1 e2
      go_enter Try.func51, Try.ntmps51
      go_wp2
      go_ret
      rw [e3.out, e4.out]
      exact ⟨rfl, hI.out.numbers e7.out (by simp [World.setCell]) (fun k hk => (Below.heap_setCell _ _ _ _ hk).trans (Below.heap_setCell _ _ _ _ hk)) (blk_put (blk_put hI.out.blk 5 _ rfl) 7 _ rfl), ((Kept.refl _ _).setCell (.inl hI.out.sg) _).setCell (.inl hI.out.sg) _, by simp [World.setCell]⟩
  · have t0 : decide (0 < D.fuse) = false := decide_eq_false h0
    have e1 : stepE D = 0 := if_neg (by omega)
    have e2 : stepD D = { D with work := wrap64 (D.work + 1) } := (if_neg (by omega)).trans (if_neg h0)
    have e3 := Aside0.mk e1
    have e4 := Aside0.mk e2
    clear h0 hf0 hf1 e1 e2
    go_enter Try.func51, Try.ntmps51
    go_wp2
    go_ret
    rw [e3.out, e4.out]
    exact ⟨rfl, hI.out.numbers hI.out.lf (by simp [World.setCell]) (fun k hk => Below.heap_setCell _ _ _ _ hk) (blk_put hI.out.blk 7 _ rfl), (Kept.refl _ _).setCell (.inl hI.out.sg) _, by simp [World.setCell]⟩

/-- When the power goes. -/
def fuseD (D : DkS) (n : Int) : DkS := if D.down = true then D else { D with fuse := if n ≤ 0 then 0 else n }
theorem fuse_ok (h : IsD w base g S D r) (n : Int) (hn : n ≤ 9223372036854775807) : Calls Try.prog 28 #[.pointer (some ⟨g, 0, none⟩), .int .i64 n] w fun e w' => e = .returned (.tuple #[]) ∧ IsD w' base g S (fuseD D n) r ∧ Kept w w' S ∧ w'.heap.size = w.heap.size := by
  have hI := Aside0.mk h
  have f5 : w.frozen? ⟨g, 5, none⟩ = false := blk_frozen h.blk 5
  have c5 : w.cell? ⟨g, 5, none⟩ = some (.int .i64 D.fuse) := (blk_cell h.blk 5).trans rfl
  have c6 : w.cell? ⟨g, 6, none⟩ = some (.bool D.down) := (blk_cell h.blk 6).trans rfl
  clear h
  cases hd : D.down
  · rw [hd] at c6
    by_cases h0 : n ≤ 0
    · have t0 : max 0 n = 0 := by omega
      have e := Aside0.mk (show fuseD D n = { D with fuse := 0 } by unfold fuseD; rw [if_neg (by rw [hd]; simp), if_pos h0])
      clear hn hd
      go_enter Try.func28, Try.ntmps28
      go_wp2
      go_end0
      rw [e.out]
      exact ⟨rfl, hI.out.numbers ⟨by omega, by omega⟩ (by simp [World.setCell]) (fun k hk => Below.heap_setCell _ _ _ _ hk) (blk_put hI.out.blk 5 _ rfl), (Kept.refl _ _).setCell (.inl hI.out.sg) _, by simp [World.setCell]⟩
    · have t0 : max 0 n = n := by omega
      have e := Aside0.mk (show fuseD D n = { D with fuse := n } by unfold fuseD; rw [if_neg (by rw [hd]; simp), if_neg h0])
      have e2 := Aside0.mk (show 0 ≤ n ∧ n ≤ 9223372036854775807 by omega)
      clear hn hd
      go_enter Try.func28, Try.ntmps28
      go_wp2
      go_end0
      rw [e.out]
      exact ⟨rfl, hI.out.numbers e2.out (by simp [World.setCell]) (fun k hk => Below.heap_setCell _ _ _ _ hk) (blk_put hI.out.blk 5 _ rfl), (Kept.refl _ _).setCell (.inl hI.out.sg) _, by simp [World.setCell]⟩
  · rw [hd] at c6
    have e := Aside0.mk (show fuseD D n = D by unfold fuseD; rw [if_pos hd])
    clear hn hd
    go_enter Try.func28, Try.ntmps28
    go_wp2
    go_end0
    rw [e.out]
    exact ⟨rfl, hI.out, Kept.refl _ _, rfl⟩
end

/-! A nil disk. -/
section
variable {w : World}
theorem nil_fuse (n : Int) : Calls Try.prog 28 #[.pointer none, .int .i64 n] w fun e w' => e = .returned (.tuple #[]) ∧ w' = w := by
  go_enter Try.func28, Try.ntmps28
  go_wp2
  go_end0
  exact ⟨rfl, rfl⟩
theorem nil_off : Calls Try.prog 24 #[.pointer none] w fun e w' => e = .returned (.tuple #[]) ∧ w' = w := by
  go_enter Try.func24, Try.ntmps24
  go_wp2
  go_end0
  exact ⟨rfl, rfl⟩
theorem nil_on (v : Value) (n : Int) : Calls Try.prog 22 #[.pointer none, v, .int .i64 n] w fun e w' => e = .returned (.tuple #[]) ∧ w' = w := by
  go_enter Try.func22, Try.ntmps22
  go_wp2
  try simp only [Exit.inBlock, Exit.then]
  refine bodyPost_ret (results_none rfl _ _ _) rfl ?_
  exact ⟨rfl, rfl⟩
theorem nil_down : Calls Try.prog 29 #[.pointer none] w fun e w' => e = .returned (.bool false) ∧ w' = w := by
  go_enter Try.func29, Try.ntmps29
  go_wp2
  go_ret
  exact ⟨rfl, rfl⟩
theorem nil_steps : Calls Try.prog 30 #[.pointer none] w fun e w' => e = .returned (.int .i64 0) ∧ w' = w := by
  go_enter Try.func30, Try.ntmps30
  go_wp2
  go_ret
  exact ⟨rfl, rfl⟩
theorem nil_waits : Calls Try.prog 25 #[.pointer none] w fun e w' => e = .returned (.int .i64 0) ∧ w' = w := by
  go_enter Try.func25, Try.ntmps25
  go_wp2
  go_ret
  exact ⟨rfl, rfl⟩
theorem nil_sync : Calls Try.prog 21 #[.pointer none] w fun e w' => e = .returned (.int .i64 1) ∧ w' = w := by
  go_enter Try.func21, Try.ntmps21
  go_wp2
  go_ret
  exact ⟨rfl, rfl⟩
theorem nil_read (i : Int) : Calls Try.prog 23 #[.pointer none, .int .i64 i] w fun e w' => e = .returned (.tuple #[.slice none 0 0, .int .i64 1]) ∧ w' = w := by
  have hL := Aside0.mk (nil_ask (w := w) i)
  go_enter Try.func23, Try.ntmps23
  go_wp2_with fail
  refine hL.out.mono ?_
  rintro e w' ⟨rfl, rfl⟩
  go_wp2
  go_ret2
  exact ⟨rfl, rfl⟩
theorem nil_write (i : Int) (v : Value) : Calls Try.prog 20 #[.pointer none, .int .i64 i, v] w fun e w' => e = .returned (.int .i64 1) ∧ w' = w := by
  have hL := Aside0.mk (nil_ask (w := w) i)
  go_enter Try.func20, Try.ntmps20
  go_wp2_with fail
  refine hL.out.mono ?_
  rintro e w' ⟨rfl, rfl⟩
  go_wp2
  go_ret
  exact ⟨rfl, rfl⟩
end
/-! Bytes: a copy of them, and a sector's bytes with noughts behind them. -/
theorem infoB : (Try.prog.info? 5).map (fun i => (i.zero, i.size, i.bytes)) = some (some (.int .u8 0), 1, 1) := by kernel_rfl

set_option maxHeartbeats 1000000 in
theorem clone_ok (A : Option Addr) (c : Nat) (l : List Int) (w : World) (hC : Kd.C (Kd.int .u8) w A l.length l) (hc : l.length ≤ c) (hl : l.length ≤ 1000000) :
    Calls Try.prog 52 #[.slice A l.length c] w fun e w' => ∃ s : Sec, e = .returned s.v ∧ s.b = l ∧ Own w' w.heap.size (fun _ => True) s ∧ Below w.heap.size w w' := by
  have HC := Aside0.mk hC
  have t1 := fun (W : World) (A : Option Addr) (n c n' c' : Nat) => Go.Lib.run_eql_slice_nil (P := Try.prog) W 22 5 A n c n' c' Try.underlying22
  rcases A with _ | a
  · have hl0 : l = [] := by
      rcases Nat.eq_zero_or_pos l.length with h0 | h0
      · exact List.eq_nil_of_length_eq_zero h0
      · obtain ⟨ad, he, _⟩ := hC.2.2 h0
        cases he
    subst hl0
    clear HC hC
    go_enter Try.func52, Try.ntmps52
    go_wp2
    go_ret
    exact ⟨Sec.nil, rfl, rfl, Kd.R_nil _ _ _ _ _, Below.refl _ _⟩
  · have hm : l.length * 1 ≤ 140737488355328 := by omega
    clear hC
    go_enter Try.func52, Try.ntmps52
    go_wp2_with (at_builtin; refine Kd.R_append_row (w0 := w) (Value.int .u8) (0 : Int) (h1 := fun _ => rfl) w.heap.size rfl (.tmp 5) (.tmp 6) 22 5 (.int .u8 0) 1 rfl Try.underlying22 infoB rfl (by decide) _ [] l (some a) l.length c (fun _ => True) rfl rfl (fun _ _ => trivial) (Kd.R_of_own (h1 := fun _ => rfl) (ok := fun _ => True) (own_lit_of (enc := Value.int .u8) w w.heap.size 5 ([] : List Int) (Nat.le_refl _) (by simp)) (fun _ _ => trivial)) (Kd.C_alloc HC.out _) (below_alloc (Below.refl _ _) _) (by simp) (by simpa using hm) ?_; intro v1 w1 hR hB _ _; rw [List.nil_append] at hR; have HR := Aside0.mk hR; have HB := Aside0.mk hB; clear hR hB HC hm t1)
    go_ret
    obtain ⟨A', c', hv, hc'⟩ := row_len HR.out
    refine ⟨⟨A', c', l⟩, congrArg Ending.returned hv, rfl, ?_, HB.out⟩
    have := HR.out
    rw [hv] at this
    exact this

/-- A sector's bytes. -/
def wholeF (l : List Int) : List Int := l ++ List.replicate (512 - l.length) 0

set_option maxRecDepth 100000 in
set_option maxHeartbeats 1000000 in
theorem whole_ok (A : Option Addr) (c : Nat) (l : List Int) (w : World) (hC : Kd.C (Kd.int .u8) w A l.length l) (hl : l.length ≤ 512) :
    Calls Try.prog 53 #[.slice A l.length c] w fun e w' => ∃ s : Sec, e = .returned s.v ∧ s.b = wholeF l ∧ Own w' w.heap.size (fun _ => True) s ∧ Below w.heap.size w w' := by
  have HC := Aside0.mk hC
  have HL := Aside0.mk hl
  clear hC hl
  go_enter Try.func53, Try.ntmps53
  go_wp2_with (first
    | ((with_reducible refine gate_dst (N := 4) rfl ?_); refine Kd.R_make (Kd.int .u8) (w0 := w) w.heap.size 5 rfl (N := 4) rfl 22 _ _ rfl 512 rfl rfl Try.underlying22 (.int .u8 0) 1 infoB rfl (by decide) (by omega) 0 (ok := fun _ => True) (okp := fun _ => True) rfl (fun _ hk => hk) trivial (by omega) (by simp) (Below.refl _ _) (Nat.le_refl _) ?_; intro v1 w1 hR hB _ _; obtain ⟨zs, hzs⟩ : ∃ z : List Int, z = List.replicate (512 : Int).toNat 0 := ⟨_, rfl⟩; rw [← hzs] at hR; have HZ := Aside0.mk hzs; clear hzs; have HR := Aside0.mk hR; have HB := Aside0.mk hB; clear hR hB)
    | ((with_reducible refine gate_dst (N := 7) rfl ?_); refine Kd.R_copy (h1 := fun _ => rfl) (enc := Value.int .u8) (0 : Int) (w0 := w) w.heap.size rfl (.tmp 5) (.tmp 6) 22 22 5 rfl Try.underlying22 (by kernel_rfl) _ _ l A l.length c (fun _ => True) rfl rfl HR.out (Kd.C_below HC.out HB.out) HB.out HB.out.size ?_; intro w2 hR2 hB2 _; have HR2 := Aside0.mk hR2; have HB2 := Aside0.mk hB2; clear hR2 hB2))
  go_ret
  have hR := HR2.out
  have e : List.take (min l.length zs.length) l ++ List.drop (min l.length zs.length) zs = wholeF l := by
    have := HL.out
    unfold wholeF
    rw [HZ.out, show (512 : Int) = ((512 : Nat) : Int) from rfl, List.length_replicate, Int.toNat_natCast 512, Nat.min_eq_left this, List.take_length, List.drop_replicate]
  rw [e] at hR
  obtain ⟨A', c', hv, hc'⟩ := row_len hR
  refine ⟨⟨A', c', wholeF l⟩, congrArg Ending.returned hv, rfl, ?_, HB2.out⟩
  rw [hv] at hR
  exact hR
end Go.Proofs.Ytihmfccpgahmaaa.Dk
