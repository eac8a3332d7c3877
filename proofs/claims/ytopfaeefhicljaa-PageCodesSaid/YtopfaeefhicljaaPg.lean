/- What the functions of package page do, walked: contracts in terms of the plain functions of PgEnc and PgDec; boxes of pages; when two are the same. Conditions: slices no longer than a thousand elements where two pages are compared. -/
import Derived.Test.YtopfaeefhicljaaPgS
import Derived.Test.YtopfaeefhicljaaP8
import Derived.Test.YtopfaeefhicljaaP16
import Derived.Test.YtopfaeefhicljaaPgDec
import Derived.Test.YtopfaeefhicljaaWKept
namespace Go.Proofs.Ytopfaeefhicljaa.Q
open Go Go.RowKit Go.Proofs.YtopfaeefhicljaaW.PrintWords Go.Proofs.Ytopfaeefhicljaa.Leb Go.Proofs.Ytopfaeefhicljaa.Str
set_option linter.unusedVariables false
set_option linter.unusedSimpArgs false

/-- Bytes that are read. -/
structure Cs (w : World) (A : Option Addr) (c : Nat) (l : List Int) : Prop where
  le : l.length ≤ c
  C : Kd.C (Kd.int .u8) w A l.length l

theorem Cs.step {w w' : World} {A : Option Addr} {c : Nat} {l : List Int} (h : Cs w A c l) (hb : Below w.heap.size w w') : Cs w' A c l := ⟨h.le, Kd.C_below h.C hb⟩
theorem Cs.conv {w W : World} {A : Option Addr} {c : Nat} {l : List Int} (h : Cs w A c l) (hW : Below w.heap.size w W) : (convert 28 9 (.slice A l.length c)).run Try.prog W = .ok (.string (strOfNums l)) W := by
  have := conv_take h.C hW c (Nat.le_refl _)
  rw [List.take_length] at this
  exact this

theorem undrew {w w' : World} (h : Below w.drew.heap.size w.drew w') : Below w.heap.size w w' := ⟨h.os, h.tape, h.output, h.size, h.block⟩
theorem undrewN {w w' : World} {n : Nat} (h : Below (w.drewN n).heap.size (w.drewN n) w') : Below w.heap.size w w' := ⟨h.os, h.tape, h.output, h.size, h.block⟩
theorem drewn (w : World) (n : Nat) : Below w.heap.size w (w.drewN n) := pw_below_drewN (Below.refl _ _) n

theorem cs_of {w' : World} {base : Nat} {ok : Nat → Prop} {v : Value} {l : List Int} (h : Kd.R (Kd.int .u8) 5 w' base ok v l) : ∃ A c, v = .slice A l.length c ∧ Cs w' A c l := by
  obtain ⟨A, c, he, hl, hC⟩ := Kd.R_reads h
  exact ⟨A, c, he, hl, hC⟩


/-! ### contracts -/
section
variable {p : PgV} {A1 A2 A3 : Option Addr} {c1 c2 c3 : Nat} {w : World}
theorem enc_ok (hR : PgR w p A1 c1 A2 c2 A3 c3) (m : Nat) (hm : m < 18446744073709551616) (h : rightP p = true) :
    Calls Try.prog 16 #[p.lay A1 c1 A2 c2 A3 c3, .int .u64 (m : Int)] w fun e w' => ∃ A c, e = .returned (.tuple #[.slice A (encP p m []).length c, .int .i64 0]) ∧ Cs w' A c (encP p m []) ∧ Below w.heap.size w w' := by
  refine (page_Encode.calls 100 p.kind A1 c1 p.keys A2 c2 p.vals A3 c3 p.kids p.root p.next p.size p.idle (m : Int) (encP p m []) 0 w hR.r1 hR.l1 hR.r2 hR.l2 hR.r3 hR.l3 (enc_yes_p 100 p m (by omega) hm h)).mono ?_
  rintro e w' ⟨v0, rfl, hR, hB⟩
  obtain ⟨A, c, rfl, hs⟩ := cs_of hR
  exact ⟨A, c, rfl, hs, hB⟩
theorem enc_no (hR : PgR w p A1 c1 A2 c2 A3 c3) (m : Int) (h1 : p.keys.length ≤ 1000) (h2 : p.vals.length ≤ 1000) (h3 : p.kids.length ≤ 1000) (h : rightP p = false) :
    Calls Try.prog 16 #[p.lay A1 c1 A2 c2 A3 c3, .int .u64 m] w fun e w' => ∃ A c, e = .returned (.tuple #[.slice A 0 c, .int .i64 1]) ∧ Below w.heap.size w w' := by
  refine (page_Encode.calls 1001 p.kind A1 c1 p.keys A2 c2 p.vals A3 c3 p.kids p.root p.next p.size p.idle m [] 1 w hR.r1 hR.l1 hR.r2 hR.l2 hR.r3 hR.l3 (enc_no_p 1001 p m (by omega) (by omega) (by omega) (by omega) h)).mono ?_
  rintro e w' ⟨v0, rfl, hR, hB⟩
  obtain ⟨A, c, rfl, hs⟩ := cs_of hR
  exact ⟨A, c, rfl, hB⟩
theorem right_ok (hR : PgR w p A1 c1 A2 c2 A3 c3) (h1 : p.keys.length ≤ 1000) (h2 : p.vals.length ≤ 1000) (h3 : p.kids.length ≤ 1000) :
    Calls Try.prog 17 #[p.lay A1 c1 A2 c2 A3 c3] w fun e w' => e = .returned (.bool (rightP p)) ∧ Below w.heap.size w w' :=
  page_Page_Right.calls 1001 p.kind A1 c1 p.keys A2 c2 p.vals A3 c3 p.kids p.root p.next p.size p.idle (rightP p) w hR.r1 hR.l1 hR.r2 hR.l2 hR.r3 hR.l3 (pright_f 1001 p (by omega) (by omega) (by omega) (by omega))
def smallB (p : PgV) : Bool := decide (p.keys.length ≤ 20 ∧ p.vals.length ≤ 20 ∧ p.kids.length ≤ 20)
theorem small_ok (hR : PgR w p A1 c1 A2 c2 A3 c3) :
    Calls Try.prog 18 #[p.lay A1 c1 A2 c2 A3 c3] w fun e w' => e = .returned (.bool (smallB p)) ∧ Below w.heap.size w w' :=
  dockmasterlaw06_small.calls p.kind A1 c1 p.keys A2 c2 p.vals A3 c3 p.kids p.root p.next p.size p.idle (smallB p) w hR.r1 hR.l1 hR.r2 hR.l2 hR.r3 hR.l3 (by
    unfold dockmasterlaw06_small.f smallB
    simp only [ite_b]
    rw [Option.some.injEq, Bool.eq_iff_iff]
    simp only [Bool.and_eq_true, decide_eq_true_eq]
    omega)
end
theorem head_ok (w : World) : Calls Try.prog 15 #[] w fun e w' => e = .returned (.bool true) ∧ Below w.heap.size w w' := dockmasterlaw06_head.calls 100 true w (head_p 100 (by omega))

/-- What Decode answers, the page's slices being read behind it. -/
theorem dec_calls {A : Option Addr} {c : Nat} {l : List Int} {w : World} (hs : Cs w A c l) (q : PgV) (m e : Int) (h : page_Decode.f 200 l = some (q.kind, q.keys, q.vals, q.kids, q.root, q.next, q.size, q.idle, m, e)) :
    Calls Try.prog 23 #[.slice A l.length c] w fun en w' => ∃ A1 c1 A2 c2 A3 c3, en = .returned (.tuple #[q.lay A1 c1 A2 c2 A3 c3, .int .u64 m, .int .i64 e]) ∧ PgR w' q A1 c1 A2 c2 A3 c3 ∧ Below w.heap.size w w' := by
  refine (page_Decode.calls 200 A c l _ _ _ _ _ _ _ _ _ _ w hs.C hs.le h).mono ?_
  rintro en w' ⟨v1, v2, v3, rfl, h1, h2, h3, hB⟩
  obtain ⟨A1, c1, rfl, l1, r1⟩ := Kd.R_reads h1
  obtain ⟨A2, c2, rfl, l2, r2⟩ := Kd.R_reads h2
  obtain ⟨A3, c3, rfl, l3, r3⟩ := Kd.R_reads h3
  exact ⟨A1, c1, A2, c2, A3, c3, rfl, ⟨r1, l1, r2, l2, r3, l3⟩, hB⟩
def zeroV : PgV := ⟨0, [], [], [], 0, 0, 0, 0⟩

/-! ### unlike pages are unlike bytes -/
theorem encP_inj {p q : PgV} (hp : rightP p = true) (hq : rightP q = true) {a b : Nat} (h : encP p a [] = encP q b []) : p = q ∧ a = b := by
  unfold encP at h
  obtain ⟨h1, h2⟩ := leb_inj _ _ _ _ h
  obtain ⟨h3, h4⟩ := leb_inj _ _ _ _ h2
  refine ⟨?_, h3⟩
  have e : encP p 0 [] = encP q 0 [] := by unfold encP; rw [h1, h4]
  have lp := lens_p (rtP_of hp)
  have f1 := fun hx => dec_fwd_p 200 p 0 [] (by omega) hp (by omega) (by simp) hx
  have f2 := fun hx => dec_fwd_p 200 q 0 [] (by omega) hq (by omega) (by simp) hx
  by_cases hx : (encP p 0 []).length < 1152921504606846976
  · have g1 := f1 hx
    rw [e] at g1 hx
    rw [f2 hx] at g1
    unfold outP at g1
    injection g1 with g1
    simp only [Prod.mk.injEq] at g1
    obtain ⟨a1, a2, a3, a4, a5, a6, a7, a8, _⟩ := g1
    obtain ⟨b1, b2, b3, b4, b5, b6, b7, b8⟩ := p
    obtain ⟨d1, d2, d3, d4, d5, d6, d7, d8⟩ := q
    dsimp only at *
    subst a1 a2 a3 a4 a5 a6 a7 a8
    rfl
  · exfalso
    exact hx (by have := enc_small hp (m := 0) (by omega); omega)

end Go.Proofs.Ytopfaeefhicljaa.Q
