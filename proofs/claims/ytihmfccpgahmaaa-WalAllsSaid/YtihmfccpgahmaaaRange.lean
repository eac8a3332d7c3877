/- A law of mine for 'for .. := range f' over a function whose rounds are handed slices: the iterator tells, round by round, what it hands over (Hx). No conditions beyond those that the law names. -/
import Derived.RangeFuncNested
import Derived.RangeFuncBound
import Derived.RangeFuncCalls
import Derived.RangeFuncLeaves
import Derived.RangeFuncWrites
import Derived.RangeFuncBox
import Derived.Shelf.Abstract
import Derived.WalkKit
import Derived.OwnWalkIn
import Derived.TacticsInMore
import Derived.LoopNIn
import Derived.LoopIn
import Derived.Test.YtihmfccpgahmaaaWKept
namespace Go.Proofs.Ytihmfccpgahmaaa.Rng
open Go Go.RowKit
variable {F : Fence} {n : Nat} {P : Program} {α : Type}
/-- What an iterator owes: it calls yield, in order, at things of which Hx tells, and keeps whatever J the loop keeps. -/
def SeqH (F : Fence) (n : Nat) (P : Program) (gf : Nat) (lb : Array Value) (encs : α → Array Value) (Kp : World → World → Prop) (Hx : List α → α → World → Prop) (S Sp : List α → Prop) (w : World) : Prop :=
  ∀ (l : Nat) (J Jx : List α → World → Prop) (W : World), Below w.heap.size w W → (∀ pre A B, J pre A → Below A.heap.size A B → J pre B) → (∀ pre A B, Jx pre A → Below A.heap.size A B → Jx pre B) →
    (∀ pre x W1, J pre W1 → Hx pre x W1 → YieldAt F (n - 1) P l (encs x) W1 fun e W2 => (e = .returned (.bool true) ∧ J (pre ++ [x]) W2 ∧ Kp W1 W2) ∨ (e = .returned (.bool false) ∧ Jx (pre ++ [x]) W2)) →
    J [] W → CallsIn F n P gf (#[.func (.yield l) #[] #[]] ++ lb) W fun e W2 => (∃ v, e = .returned v) ∧ ((∃ xs, S xs ∧ J xs W2) ∨ (∃ pre, Sp pre ∧ Jx pre W2))
/-- How a round's body may be left. -/
def Left (Kp : World → World → Prop) (w : World) (I : List α → World → Prop) (Ix : Code → List α → World → Prop) (xs : List α) (W : World) : Exit → Act → World → Prop
  | .normal, _, W2 => KeepsFrom w.heap.size W W2 ∧ Kp W W2 ∧ I xs W2
  | .ret, _, W2 => KeepsFrom w.heap.size W W2 ∧ Ix .ret xs W2
  | .exit k, _, W2 => KeepsFrom w.heap.size W W2 ∧ Ix (.exit k) xs W2
  | _, _, _ => False
theorem of_below {β : Type} {B : Nat} {I : β → World → Prop} (h : OwnFrom B I) {s : β} {W W2 : World} (hs : I s W) (hb : Below W.heap.size W W2) : I s W2 :=
  h s W W2 none hs ⟨hb.os, hb.tape, hb.output, hb.size, fun i hi _ => hb.block i hi⟩ (fun _ e => by cases e)
/-- The record of a loop under way, and the block for its rounds' deferred calls. -/
structure Rec (w : World) (r : Loop) (W : World) : Prop where
  l : W.heap[w.heap.size + 1]? = some (.loop r)
  d : W.heap[w.heap.size]? = some (.deferred (some []))
theorem Rec.below {w : World} {r : Loop} {A B : World} (h : Rec w r A) (hb : Below A.heap.size A B) : Rec w r B :=
  ⟨(hb.block _ (Array.getElem?_eq_some_iff.1 h.l).1).trans h.l, (hb.block _ (Array.getElem?_eq_some_iff.1 h.d).1).trans h.d⟩
theorem Rec.kept {w : World} {r : Loop} {A B : World} (h : Rec w r A) (hk : KeepsFrom w.heap.size A B) : Rec w r B :=
  ⟨hk.same _ _ (Nat.le_succ _) h.l rfl, hk.same _ _ (Nat.le_refl _) h.d rfl⟩
theorem Rec.put {w : World} {r : Loop} {A : World} (h : Rec w r A) (q : Loop) : Rec w q (A.putObj (w.heap.size + 1) (.loop q)) :=
  ⟨World.putObj_heap_same (Array.getElem?_eq_some_iff.1 h.l).1, (World.putObj_heap_other (by omega)).trans h.d⟩
theorem Rec.belowPut {w : World} {r : Loop} {A : World} (h : Rec w r A) (q : Loop) : Below w.heap.size A (A.putObj (w.heap.size + 1) (.loop q)) := belowK_b (Nat.le_refl _) A _ _ _ (Nat.le_succ _) h.l rfl rfl
theorem range_H {g : Operand} {ps : Array Tmp} {assign body : Code} {Q : Exit → Act → World → Prop} {a : Act} {w : World} (hro : F.round = none) (h1 : 1 ≤ n) {gf : Nat} {lb : Array Value} (hg : a.eval g = .func (.func gf) #[] lb) (hF : F.fn gf) (eg : ∀ args w, (callFunc gf args).run P w = .ok (.enter gf args) w)
    {encs : α → Array Value} {Kp : World → World → Prop} {Hx : List α → α → World → Prop} {S Sp : List α → Prop} (hseq : SeqH F (n - 1) P gf lb encs Kp Hx S Sp w) (hKt : ∀ {A B C : World}, Kp A B → Kp B C → Kp A C) (hKp : ∀ (A : World) (l : Nat) (o o' : Obj), w.heap.size ≤ l → A.heap[l]? = some o → o.isCells = false → Kp A (A.putObj l o')) (hps : ∀ x, (encs x).size = ps.size)
    (hHx : ∀ pre x (A : World) (l : Nat) (o o' : Obj), Hx pre x A → A.heap[l]? = some o → o.isCells = false → Hx pre x (A.putObj l o'))
    (I : List α → World → Prop) (Ix : Code → List α → World → Prop) (hI : OwnFrom w.heap.size I) (hIx : ∀ c, OwnFrom w.heap.size (Ix c)) (h0 : I [] w) (a1 : α → Act)
    (hassign : ∀ (l : Nat) (x : α) (W : World) (K : Act → World → Prop), K (a1 x) W → assign.wpIn (F.inRound l) (n - 1 - 1) P (Exit.then K (fun _ _ _ => False)) { tmps := (ps.zip (encs x)).foldl (fun t (p, v) => t.setIfInBounds p v) a.tmps, defers := [] } W)
    (hbody : ∀ (l : Nat) (pre : List α) (x : α) (W : World), I pre W → Hx pre x W → w.heap.size + 1 < W.heap.size → body.wpIn (F.inRound l) (n - 1 - 1) P (Left Kp w I Ix (pre ++ [x]) W) (a1 x) W)
    (hdone : ∀ (D : Nat) (xs : List α) (W : World), w.heap.size ≤ D → S xs → I xs W → W.heap[D]? = some (.deferred (some [])) → Q .normal { a with defers := { target := .collected D, args := #[] } :: a.defers } W)
    (hstop : ∀ (D : Nat) (c : Code) (pre : List α) (W : World), w.heap.size ≤ D → Sp pre → Ix c pre W → W.heap[D]? = some (.deferred (some [])) → c.wpIn F n P Q { a with defers := { target := .collected D, args := #[] } :: a.defers } W) :
    (Code.rangeFunc g ps assign body).wpIn F n P Q a w := by
  apply wpIn_rangeFunc
  intro fn hfn
  rw [hro]
  let r0 : Loop := { state := .ready, pending := none, fn, tmps := a.tmps, params := ps, assign, body, defers := w.heap.size }
  let W1 : World := (w.alloc (.deferred (some []))).alloc (.loop r0)
  have e1 : (w.alloc (.deferred (some []))).heap.size = w.heap.size + 1 := World.size_alloc _ _
  have hb : Below w.heap.size w W1 := ((Below.refl _ w).alloc (Nat.le_refl _) _).alloc (by omega) _
  have hR : Rec w r0 W1 := by
    refine ⟨?_, ?_⟩
    · have := World.alloc_heap_new (w.alloc (.deferred (some []))) (.loop r0)
      rwa [e1] at this
    · exact (Below.heap_alloc _ _ _ (by omega)).trans (World.alloc_heap_new w _)
  have hsz : W1.heap.size = w.heap.size + 2 := by show ((w.alloc _).alloc _).heap.size = _; rw [World.size_alloc, e1]
  refine ⟨w.heap.size + 1, [{ target := .collected w.heap.size, args := #[] }], W1, { target := .fn (.func gf) lb, args := #[.func (.yield (w.heap.size + 1)) #[] #[]] }, W1, gf, #[.func (.yield (w.heap.size + 1)) #[] #[]] ++ lb, W1, run_enterLoop_outer _ _ _ _ _, ?_, ?_, ?_, fun _ => h1, ?_⟩
  · simp only [resolve, hg]; simp [go_sem]
  · intro f2 h2; simp [Target.leads] at h2; subst h2; exact hF
  · simp [invoke, go_sem, eg]
  refine (hseq (w.heap.size + 1) (fun pre W => I pre W ∧ Rec w r0 W) (fun pre W => ∃ c, Ix c pre W ∧ Rec w { r0 with state := .done, pending := some c } W) W1 hb (fun pre A B h hb => ⟨of_below hI h.1 hb, h.2.below hb⟩) (fun pre A B ⟨c, h, hr⟩ hb => ⟨c, of_below (hIx c) h hb, hr.below hb⟩) ?_ ⟨of_below hI h0 hb, hR⟩).mono ?_
  · rintro pre x W ⟨hi, hr⟩ hx
    refine ⟨fn, _, assign, body, run_yield hr.l (hps x), roundIn_of_wpIn hfn (hassign _ x W _ ⟨_, run_beginRound hr.l rfl, ?_⟩)⟩
    have hrb := hr.put { r0 with state := .busy }
    have hlt : w.heap.size + 1 < W.heap.size := (Array.getElem?_eq_some_iff.1 hr.l).1
    have hx2 := hHx pre x W _ _ (.loop { r0 with state := .busy }) hx hr.l rfl
    refine wpIn_mono (hbody _ pre x _ (hI.putObj _ hi (Nat.le_succ _) hr.l rfl) hx2 (by simpa [World.putObj] using hlt)) ?_
    have hbp := hKp W _ _ (.loop { r0 with state := .busy }) (Nat.le_succ _) hr.l rfl
    intro e a3 W3 hp
    cases e with
    | normal =>
      obtain ⟨hk, hb3, hi3⟩ := hp
      have hr3 := hrb.kept hk
      exact ⟨_, _, run_endRound none hr3.l, .inl ⟨rfl, ⟨hI.putObj _ hi3 (Nat.le_succ _) hr3.l rfl, hr3.put _⟩, hKt (hKt hbp hb3) (hKp _ _ _ _ (Nat.le_succ _) hr3.l rfl)⟩⟩
    | ret =>
      obtain ⟨hk, hi3⟩ := hp
      have hr3 := hrb.kept hk
      exact ⟨_, _, run_endRound (some .ret) hr3.l, .inr ⟨rfl, .ret, (hIx _).putObj _ hi3 (Nat.le_succ _) hr3.l rfl, hr3.put _⟩⟩
    | exit k =>
      obtain ⟨hk, hi3⟩ := hp
      have hr3 := hrb.kept hk
      exact ⟨_, _, run_endRound (some (.exit k)) hr3.l, .inr ⟨rfl, .exit k, (hIx _).putObj _ hi3 (Nat.le_succ _) hr3.l rfl, hr3.put _⟩⟩
    | goto t => exact hp.elim
    | panic c => exact hp.elim
    | outgrown => exact hp.elim
  · rintro e W2 ⟨⟨v, rfl⟩, (⟨xs, hS, hi, hr⟩ | ⟨pre, hSp, c, hi, hr⟩)⟩
    · exact ⟨none, _, run_endLoop hr.l (by simp [r0]), hdone _ xs _ (Nat.le_refl _) hS (hI.putObj _ hi (Nat.le_succ _) hr.l rfl) (hr.put _).d⟩
    · exact ⟨some c, _, run_endLoop hr.l (by simp), hstop _ c pre _ (Nat.le_refl _) hSp ((hIx c).putObj _ hi (Nat.le_succ _) hr.l rfl) (hr.put _).d⟩
end Go.Proofs.Ytihmfccpgahmaaa.Rng
