/- The reader of package num: what it holds, and what each of its methods does, walked. Conditions: the bytes lie in memory that was there ahead, and each is a byte. -/
import Derived.Test.YtihmfccpgahmaaaProg
import Derived.Below
import Derived.OwnWalk
import Derived.Tactics
import Derived.WalkKit
import Derived.KernelRfl
import Derived.RowKit3
import Derived.Deep.LoopGhost
import Derived.Deep.QuietTactic
import Derived.BigQuiet
import Derived.RegionTactic
import Derived.LoopTactic
import Derived.Test.YtihmfccpgahmaaaStr
import Derived.Test.YtihmfccpgahmaaaWKept
import Derived.Test.YtihmfccpgahmaaaWFoot
import Derived.Test.YtihmfccpgahmaaaWMore
import Derived.Test.YtihmfccpgahmaaaRdPure
namespace Go.Proofs.Ytihmfccpgahmaaa.Q
open Go Go.RowKit Go.Proofs.YtihmfccpgahmaaaW.PrintWords Go.Proofs.YtihmfccpgahmaaaW.PrintMore Go.Proofs.Ytihmfccpgahmaaa.Str
set_option linter.unusedVariables false

/-- A reader at block g of W; its bytes came in by w0. -/
def IsS107 (w0 W : World) (g : Nat) (f0 : RdS) : Prop := ∃ A c, W.heap[g]? = some (.cells #[.slice A f0.b.length c, .int .i64 f0.e] 107 (0, 0)) ∧ w0.heap.size ≤ g ∧ Kd.C (Kd.int .u8) w0 A f0.b.length f0.b ∧ f0.b.length ≤ c ∧ Byt f0.b

section
variable {w0 W : World} {g : Nat} {f0 : RdS}
theorem IsS107.grown {W1 : World} {row : Option Nat} (h : IsS107 w0 W g f0) (hw : W.grownBy W1 row) (hne : some g ≠ row) : IsS107 w0 W1 g f0 := by
  obtain ⟨A, c, hb, hr⟩ := h
  exact ⟨A, c, blk_grown hb hw hne, hr⟩
theorem IsS107.own_neN {α : Type} {d : Kd α} {e : Nat} {base : Nat} {ok : Nat → Prop} {v : Value} {xs : List α} (h : IsS107 w0 W g f0) (ho : Kd.N d e W base ok v xs) (ht : e ≠ 107) : some g ≠ v.ownBlock := by
  obtain ⟨A, c, hb, hr⟩ := h
  exact Kd.N_ne ho hb ht
theorem IsS107.fresh (h : IsS107 w0 W g f0) : ∀ k, W.heap.size ≤ k → k ≠ g := by
  obtain ⟨A, c, hb, hr⟩ := h
  exact Kd.freshB hb
theorem IsS107.kept {W1 : World} {S : Nat → Prop} (h : IsS107 w0 W g f0) (hk : Kept W W1 S) (hne : ¬ S g) : IsS107 w0 W1 g f0 := by
  obtain ⟨A, c, hb, hr⟩ := h
  exact ⟨A, c, blk_kept hb hk hne, hr⟩
theorem IsS107.below {W1 : World} (h : IsS107 w0 W g f0) (hw : Below W.heap.size W W1) : IsS107 w0 W1 g f0 := h.grown (grown_of_below hw none) (by simp)
theorem IsS107.alloc (h : IsS107 w0 W g f0) (o : Obj) : IsS107 w0 (W.alloc o) g f0 := h.below (below_alloc (Below.refl _ _) o)
theorem IsS107.drewN (h : IsS107 w0 W g f0) (m : Nat) : IsS107 w0 (W.drewN m) g f0 := h
theorem IsS107.drew (h : IsS107 w0 W g f0) : IsS107 w0 W.drew g f0 := h
theorem IsS107.at_ {w' : World} {m : Nat} (hq : W.drewN m = w') (h : IsS107 w0 W g f0) : IsS107 w0 w' g f0 := by subst hq; exact IsS107.drewN h m
theorem IsS107.apart {α : Type} {d : Kd α} {e : Nat} {base : Nat} {ok : Nat → Prop} {v : Value} {xs : List α} (h : IsS107 w0 W g f0) (ho : d.R e W base ok v xs) (ht : ∀ q, q ∈ e :: d.E → q ≠ 107) : d.R e W base (fun k => ok k ∧ k ≠ g) v xs := by
  obtain ⟨A, c, hb, hr⟩ := h
  exact Kd.R_types ho hb ht
theorem IsS107.own_ne {α : Type} {d : Kd α} {e : Nat} {base : Nat} {ok : Nat → Prop} {v : Value} {xs : List α} (h : IsS107 w0 W g f0) (ho : d.R e W base ok v xs) (ht : e ≠ 107) : some g ≠ v.ownBlock := by
  obtain ⟨A, c, hb, hr⟩ := h
  exact Kd.R_ne ho hb ht
theorem IsS107.apartQ {α : Type} {d : Kd α} {e : Nat} {base : Nat} {ok : Nat → Prop} {v : Value} {xs : List α} (h : IsS107 w0 W g f0) (ho : d.Q e W base ok v xs) (ht : ∀ q, q ∈ e :: d.E → q ≠ 107) : d.Q e W base (fun k => ok k ∧ k ≠ g) v xs := by
  obtain ⟨A, c, hb, hr⟩ := h
  exact Kd.Q_types ho hb ht
theorem IsS107.own_neQ {α : Type} {d : Kd α} {e : Nat} {base : Nat} {ok : Nat → Prop} {v : Value} {xs : List α} (h : IsS107 w0 W g f0) (ho : d.Q e W base ok v xs) (ht : e ≠ 107) : some g ≠ v.ownBlock := by
  obtain ⟨A, c, hb, hr⟩ := h
  exact Kd.Q_ne ho hb ht
theorem IsS107.apartS {α : Type} {d : Kd α} {e : Nat} {base : Nat} {ok : Nat → Prop} {v : Value} {xs : List α} (h : IsS107 w0 W g f0) (ho : d.S e W base ok v xs) (ht : ∀ q, q ∈ e :: d.E → q ≠ 107) : d.S e W base (fun k => ok k ∧ k ≠ g) v xs := by
  obtain ⟨A, c, hb, hr⟩ := h
  exact Kd.S_types ho hb ht
theorem IsS107.own_neS {α : Type} {d : Kd α} {e : Nat} {base : Nat} {ok : Nat → Prop} {v : Value} {xs : List α} (h : IsS107 w0 W g f0) (ho : d.S e W base ok v xs) (ht : e ≠ 107) : some g ≠ v.ownBlock := by
  obtain ⟨A, c, hb, hr⟩ := h
  exact Kd.S_ne ho hb ht
theorem IsS107.lt (h : IsS107 w0 W g f0) : g < W.heap.size := by
  obtain ⟨A, c, hb, hr⟩ := h
  exact blk_lt hb
theorem IsS107.ge (h : IsS107 w0 W g f0) : w0.heap.size ≤ g := by
  obtain ⟨A, c, hb, hg, hr⟩ := h
  exact hg
theorem IsS107.ne_blk {a : Nat} {cs : Array Value} {t : TypeId} {fr : Nat × Nat} (h : IsS107 w0 W g f0) (hb2 : W.heap[a]? = some (.cells cs t fr)) (ht : t ≠ 107) : g ≠ a := by
  obtain ⟨A, c, hb, hr⟩ := h
  rintro rfl
  rw [hb] at hb2
  injection hb2 with hb2
  injection hb2 with _ ht2
  exact ht ht2.symm
theorem IsS107.far {p : Addr} (h : IsS107 w0 W g f0) (hne : g ≠ p.block) (u : Value) : IsS107 w0 (W.setCell p u) g f0 := by
  obtain ⟨A, c, hb, hr⟩ := h
  exact ⟨A, c, blk_far hb hne u, hr⟩
end

theorem num_Reader_Err.calls (g : Nat) (s0_0 : RdS) (r1 : Int) (r2 : RdS) (w0 w : World) (hI : IsS107 w0 w g s0_0) (hB : Below w0.heap.size w0 w) (h : num_Reader_Err.f s0_0 = some (r1, r2)) :
    Calls Try.prog 63 #[.pointer (some ⟨g, 0, none⟩)] w fun e w' => e = .returned (.int .i64 r1) ∧ IsS107 w0 w' g r2 ∧ Below w0.heap.size w0 w' ∧ KeepBut w w' g none := by
  simp only [num_Reader_Err.f, Option.some.injEq, Prod.mk.injEq] at h
  obtain ⟨rfl, rfl⟩ := h
  have hI2 := Aside0.mk hI
  have hB2 := Aside0.mk hB
  obtain ⟨A, c, hb, hg, hC, hc, hy⟩ := hI
  have c1 : w.cell? ⟨g, 1, none⟩ = some (.int .i64 s0_0.e) := (blk_cell hb 1).trans rfl
  clear hb hC hy hB hg hc
  go_enter Try.func63, Try.ntmps63
  go_wp2
  go_ret
  exact ⟨rfl, hI2.out, hB2.out, KeepBut.refl _ _ _⟩

theorem fail_ok (g : Nat) (s0_0 : RdS) (x : Int) (w0 w : World) (hI : IsS107 w0 w g s0_0) (hB : Below w0.heap.size w0 w) :
    Calls Try.prog 65 #[.pointer (some ⟨g, 0, none⟩), .int .i64 x] w fun e w' => e = .returned (.tuple #[]) ∧ IsS107 w0 w' g ⟨[], x⟩ ∧ Below w0.heap.size w0 w' ∧ KeepBut w w' g none := by
  have hB2 := Aside0.mk hB
  obtain ⟨A, c, hb, hg, hC, hc, hy⟩ := hI
  have hb2 := Aside0.mk hb
  have hg2 := Aside0.mk hg
  have f0 : w.frozen? ⟨g, 0, none⟩ = false := blk_frozen hb 0
  have f1 : w.frozen? ⟨g, 1, none⟩ = false := blk_frozen hb 1
  have c1 : w.cell? ⟨g, 1, none⟩ = some (.int .i64 s0_0.e) := (blk_cell hb 1).trans rfl
  have c0 : w.cell? ⟨g, 0, none⟩ = some (.slice A s0_0.b.length c) := (blk_cell hb 0).trans rfl
  clear hb hC hy hB hg hc
  go_enter Try.func65, Try.ntmps65
  go_wp2
  go_end0
  exact ⟨rfl, ⟨none, 0, blk_put (blk_put hb2.out 1 (.int .i64 x) rfl) 0 (.slice none 0 0) rfl, hg2.out, Kd.C_nil _ w0, Nat.le_refl _, Byt.nil⟩, below_set (below_set hB2.out hg2.out) hg2.out, ((KeepBut.refl _ _ _).set_ _ _).set_ _ _⟩

/-- A read slice's element, where the walk reads it. -/
theorem cell_at {w0 w : World} {A : Option Addr} {l : List Int} (hC : Kd.C (Kd.int .u8) w0 A l.length l) (hB : Below w0.heap.size w0 w) {j : Nat} (hj : j < l.length) :
    ∃ ad, A = some ad ∧ w.cell? (ad.add j) = some (.int .u8 l[j]) := by
  obtain ⟨_, _, h3⟩ := Kd.C_below hC hB
  obtain ⟨ad, rfl, h4⟩ := h3 (by omega)
  refine ⟨ad, rfl, ?_⟩
  obtain ⟨cs, h6, h5, h7⟩ := h4 j l[j] (List.getElem?_eq_getElem hj)
  have h8 : cs = [.int .u8 l[j]] := h5
  subst h8
  have := h7 0 (.int .u8 l[j]) rfl
  simpa [show (Kd.int .u8).sz = 1 from rfl] using this

theorem num_ok (g : Nat) (l : List Int) (e : Int) (a1 : Int) (r1 : Int) (r2 : RdS) (w0 w : World) (hI : IsS107 w0 w g ⟨l, e⟩) (hB : Below w0.heap.size w0 w) (he : e = 0) (h : rgo a1 0 0 l = (r1, r2)) :
    Calls Try.prog 62 #[.pointer (some ⟨g, 0, none⟩), .int .u64 a1] w fun e w' => e = .returned (.int .u64 r1) ∧ IsS107 w0 w' g r2 ∧ Below w0.heap.size w0 w' ∧ KeepBut w w' g none := by
  have hB2 := Aside0.mk hB
  have hI2 := Aside0.mk hI
  obtain ⟨A, c, hb, hg, hC, hc, hy⟩ := hI
  have t1 : (e != 0) = false := by simp [he]
  have hb2 := Aside0.mk hb
  have hg2 := Aside0.mk hg
  have hC2 := Aside0.mk hC
  have hy2 := Aside0.mk hy
  have hc2 := Aside0.mk hc
  have hlm : l.length ≤ 9223372036854775807 := hC.2.1
  have f0 : w.frozen? ⟨g, 0, none⟩ = false := blk_frozen hb 0
  have c1 : w.cell? ⟨g, 1, none⟩ = some (.int .i64 e) := (blk_cell hb 1).trans rfl
  have c0 : w.cell? ⟨g, 0, none⟩ = some (.slice A l.length c) := (blk_cell hb 0).trans rfl
  have h2 := Aside0.mk h
  have he2 := Aside0.mk he
  clear hb hC hy hB hg hc he h
  go_enter Try.func62, Try.ntmps62
  go_wp2
  go_loop [5, 22] (fun n k => ∃ (j : Nat) (acc : Int), j ≤ l.length ∧ k = .int .i64 j ∧ n = .int .u64 acc ∧ Aside0 (rgo a1 j acc (l.drop j) = (r1, r2)) ∧ Aside0 (j ≤ 9) ∧ 0 ≤ acc ∧ Aside0 (acc < 128 ^ j)) (fun _ k => l.length - (intOf k).toNat)
  case atStart => exact ⟨0, 0, by omega, rfl, rfl, h2, ⟨by omega⟩, by omega, ⟨by simp⟩⟩
  case round =>
    obtain ⟨j, acc, hj, rfl, rfl, hr, hj9, ha0, ha1⟩ := hrel
    by_cases hlt : j < l.length
    · obtain ⟨ad, rfl, hcell⟩ := cell_at hC2.out hB2.out hlt
      have hd : l.drop j = l[j] :: l.drop (j + 1) := List.drop_eq_getElem_cons hlt
      have hx := hy2.out l[j] (List.getElem_mem hlt)
      generalize l[j] = x at hd hx hcell
      have hd2 := Aside0.mk hd
      clear hd
      have hj9' : j ≤ 9 := hj9.out
      by_cases hbad : (j = 9 ∧ 1 < x) ∨ (0 < j ∧ x = 0)
      · have hr2 := hr.out
        rw [hd2.out, rgo_bad hbad] at hr2
        have hr3 := Aside0.mk hr2
        clear hr2 hr hd2
        have K : ((j : Int) == 9) = true ∧ decide (1 < x) = true ∨ ((j : Int) == 9) = true ∧ decide (1 < x) = false ∧ decide (0 < j) = true ∧ (x == 0) = true ∨ ((j : Int) == 9) = false ∧ decide (0 < j) = true ∧ (x == 0) = true := by
          by_cases q9 : j = 9
          · by_cases q1 : 1 < x
            · exact .inl ⟨by simp [q9], by simpa using q1⟩
            · exact .inr (.inl ⟨by simp [q9], by simpa using q1, by simp; omega, by simp; omega⟩)
          · exact .inr (.inr ⟨by simp; omega, by simp; omega, by simp; omega⟩)
        clear hbad
        have hx1 := Aside0.mk hx
        clear hx
        rcases K with ⟨k1, k2⟩ | ⟨k1, k2, k3, k4⟩ | ⟨k1, k3, k4⟩
        all_goals
          go_wp2_with (go_at_call 65; refine (fail_ok g ⟨l, e⟩ _ w0 _ hI2.out hB2.out).mono ?_; rintro e1 w1 ⟨rfl, hI3, hB3, hK3⟩; have hI4 := Aside0.mk hI3; have hB4 := Aside0.mk hB3; have hK4 := Aside0.mk hK3; clear hI3 hB3 hK3)
          go_ret
          obtain ⟨rfl, rfl⟩ := Prod.mk.inj hr3.out
          exact ⟨rfl, hI4.out, hB4.out, hK4.out⟩
      · have hN := Aside0.mk (or_shift (x := x) ha0 ha1.out hj9' hx.1 hx.2 (fun h => by omega))
        have hp : (0 : Int) < 128 ^ j := Int.pow_pos (by decide)
        have hp2 : 0 ≤ x % 128 * 128 ^ j := Int.mul_nonneg (by omega) (by omega)
        have hp3 : x % 128 * 128 ^ j ≤ 127 * 128 ^ j := Int.mul_le_mul_of_nonneg_right (by omega) (by omega)
        have hN0 := Aside0.mk (show 0 ≤ acc + x % 128 * 128 ^ j by omega)
        have hN1 := Aside0.mk (show acc + x % 128 * 128 ^ j < 128 ^ (j + 1) by have := ha1.out; rw [Int.pow_succ]; omega)
        have hbad2 := Aside0.mk hbad
        have K : ((j : Int) == 9) = true ∧ decide (1 < x) = false ∧ decide (0 < j) = true ∧ (x == 0) = false ∨ ((j : Int) == 9) = false ∧ decide (0 < j) = true ∧ (x == 0) = false ∨ ((j : Int) == 9) = false ∧ decide (0 < j) = false := by
          by_cases q9 : j = 9
          · exact .inl ⟨by simp [q9], by simp; omega, by simp; omega, by simp; omega⟩
          · by_cases q1 : 0 < j
            · exact .inr (.inl ⟨by simp; omega, by simpa using q1, by simp; omega⟩)
            · exact .inr (.inr ⟨by simp; omega, by simpa using q1⟩)
        have hx1 := Aside0.mk hx
        clear hbad hp hp2 hp3
        by_cases hc7 : 128 ≤ x
        · have c7 : decide (128 ≤ x) = true := decide_eq_true hc7
          have hr2 := hr.out
          rw [hd2.out, rgo_more hbad2.out hc7] at hr2
          have hr3 := Aside0.mk hr2
          have hc8 := Aside0.mk hc7
          clear hr2 hr hd2 hc7 hx
          rcases K with ⟨k1, k2, k3, k4⟩ | ⟨k1, k3, k4⟩ | ⟨k1, k3⟩
          all_goals
            go_wp2
            go_round
            case rel => exact ⟨j + 1, _, by omega, by go_num, rfl, ⟨by rw [hN.out]; exact hr3.out⟩, ⟨by have := hbad2.out; have := hc8.out; omega⟩, by rw [hN.out]; exact hN0.out, ⟨by rw [hN.out]; exact hN1.out⟩⟩
            case measure => simp [intOf]; omega
        · have c7 : decide (128 ≤ x) = false := decide_eq_false hc7
          have hc8 := Aside0.mk (show x < 128 by omega)
          clear hc7 hx
          rcases K with ⟨k1, k2, k3, k4⟩ | ⟨k1, k3, k4⟩ | ⟨k1, k3⟩
          all_goals
            go_wp2_with (go_at_call 65; refine (fail_ok g ⟨l, e⟩ _ w0 _ hI2.out hB2.out).mono ?_; rintro e1 w1 ⟨rfl, hI3, hB3, hK3⟩; have hI4 := Aside0.mk hI3; have hB4 := Aside0.mk hB3; have hK4 := Aside0.mk hK3; clear hI3 hB3 hK3)
            · have hq : a1 < bits BinOp.or IntKind.u64 acc (IntKind.u64.wrap (IntKind.u64.wrap (bits BinOp.and IntKind.u8 x 127) * 2 ^ (7 * j))) := by assumption
              go_ret
              rw [hN.out] at hq
              have hr2 := hr.out
              rw [hd2.out, rgo_many hbad2.out hc8.out hq] at hr2
              obtain ⟨rfl, rfl⟩ := Prod.mk.inj hr2
              exact ⟨rfl, hI4.out, hB4.out, hK4.out⟩
            all_goals
              have hq : bits BinOp.or IntKind.u64 acc (IntKind.u64.wrap (IntKind.u64.wrap (bits BinOp.and IntKind.u8 x 127) * 2 ^ (7 * j))) ≤ a1 := by assumption
              have hA := Kd.C_drop (m := j + 1) (c := c) hC2.out (by omega) hc2.out
              have hl2 : (l.drop (j + 1)).length = l.length - (j + 1) := List.length_drop
              first
                | (have hcj : c = j + 1 := by assumption
                   rw [if_pos hcj] at hA
                   go_ret
                   rw [hN.out] at hq
                   have hr2 := hr.out
                   rw [hd2.out, rgo_done hbad2.out hc8.out (by omega)] at hr2
                   obtain ⟨rfl, rfl⟩ := Prod.mk.inj hr2
                   exact ⟨by rw [← hN.out]; rfl, ⟨_, _, by rw [hl2, ← he2.out]; exact blk_put hb2.out 0 _ rfl, hg2.out, hA, by have := hc2.out; rw [hl2]; omega, hy2.out.drop _⟩, below_set hB2.out hg2.out, (KeepBut.refl _ _ _).set_ _ _⟩)
                | (have hcj : ¬ c = j + 1 := by assumption
                   rw [if_neg hcj, Option.map_some, show (j + 1) * (Kd.int .u8).sz = j + 1 from Nat.mul_one _] at hA
                   go_ret
                   rw [hN.out] at hq
                   have hr2 := hr.out
                   rw [hd2.out, rgo_done hbad2.out hc8.out (by omega)] at hr2
                   obtain ⟨rfl, rfl⟩ := Prod.mk.inj hr2
                   exact ⟨by rw [← hN.out]; rfl, ⟨_, _, by rw [hl2, ← he2.out]; exact blk_put hb2.out 0 _ rfl, hg2.out, hA, by have := hc2.out; rw [hl2]; omega, hy2.out.drop _⟩, below_set hB2.out hg2.out, (KeepBut.refl _ _ _).set_ _ _⟩)
    · obtain rfl : j = l.length := by omega
      have hr2 := hr.out
      rw [List.drop_length, rgo_short] at hr2
      have hr3 := Aside0.mk hr2
      clear hr2 hr
      go_wp2_with (go_at_call 65; refine (fail_ok g ⟨l, e⟩ _ w0 _ hI2.out hB2.out).mono ?_; rintro e1 w1 ⟨rfl, hI3, hB3, hK3⟩; have hI4 := Aside0.mk hI3; have hB4 := Aside0.mk hB3; have hK4 := Aside0.mk hK3; clear hI3 hB3 hK3)
      go_ret
      obtain ⟨rfl, rfl⟩ := Prod.mk.inj hr3.out
      exact ⟨rfl, hI4.out, hB4.out, hK4.out⟩

theorem num_Reader_Num.calls (g : Nat) (s0_0 : RdS) (a1 : Int) (r1 : Int) (r2 : RdS) (w0 w : World) (hI : IsS107 w0 w g s0_0) (hB : Below w0.heap.size w0 w) (h : num_Reader_Num.f s0_0 a1 = some (r1, r2)) :
    Calls Try.prog 62 #[.pointer (some ⟨g, 0, none⟩), .int .u64 a1] w fun e w' => e = .returned (.int .u64 r1) ∧ IsS107 w0 w' g r2 ∧ Below w0.heap.size w0 w' ∧ KeepBut w w' g none := by
  simp only [num_Reader_Num.f, Option.some.injEq] at h
  obtain ⟨l, e⟩ := s0_0
  unfold rnum at h
  by_cases he : e = 0
  · rw [if_pos he] at h
    exact num_ok g l e a1 r1 r2 w0 w hI hB he h
  · rw [if_neg he] at h
    obtain ⟨rfl, rfl⟩ := Prod.mk.inj h
    have t1 : (e != 0) = true := by simpa using he
    have hI2 := Aside0.mk hI
    have hB2 := Aside0.mk hB
    obtain ⟨A, c, hb, hg, hC, hc, hy⟩ := hI
    have c1 : w.cell? ⟨g, 1, none⟩ = some (.int .i64 e) := (blk_cell hb 1).trans rfl
    clear hb hC hy hB hg hc he h
    go_enter Try.func62, Try.ntmps62
    go_wp2
    go_ret
    exact ⟨rfl, hI2.out, hB2.out, KeepBut.refl _ _ _⟩

/-- What the walk wants to know of a reader. -/
theorem IsS107.open_ {w0 W : World} {g : Nat} {p : RdS} (h : IsS107 w0 W g p) : ∃ A c, W.cell? ⟨g, 1, none⟩ = some (.int .i64 p.e) ∧ W.cell? ⟨g, 0, none⟩ = some (.slice A p.b.length c) ∧ W.frozen? ⟨g, 0, none⟩ = false ∧ p.b.length ≤ 9223372036854775807 ∧
    Aside0 (W.heap[g]? = some (.cells #[.slice A p.b.length c, .int .i64 p.e] 107 (0, 0)) ∧ w0.heap.size ≤ g ∧ Kd.C (Kd.int .u8) w0 A p.b.length p.b ∧ p.b.length ≤ c ∧ Byt p.b) := by
  obtain ⟨A, c, hb, hg, hC, hc, hy⟩ := h
  exact ⟨A, c, (blk_cell hb 1).trans rfl, (blk_cell hb 0).trans rfl, blk_frozen hb 0, hC.2.1, ⟨hb, hg, hC, hc, hy⟩⟩

theorem conv_take {w0 W : World} {A : Option Addr} {l : List Int} (hC : Kd.C (Kd.int .u8) w0 A l.length l) (hB : Below w0.heap.size w0 W) {j : Nat} (c : Nat) (hj : j ≤ l.length) :
    (convert 22 9 (.slice A j c)).run Try.prog W = .ok (.string (strOfNums (l.take j))) W := by
  have h := Kd.C_below (Kd.C_take (m := j) hC hj) hB
  rw [List.length_take, Nat.min_eq_left hj] at h
  exact Kd.C_string (e := 5) Try.underlying22 Try.underlying5 Try.underlying9 h

set_option maxRecDepth 100000 in
theorem text_any (g : Nat) (s0_0 : RdS) (a1 m : Int) (n : Int) (p : RdS) (w0 w : World) (hI : IsS107 w0 w g s0_0) (hB : Below w0.heap.size w0 w) (h1 : -9223372036854775808 ≤ a1) (h2 : a1 ≤ 9223372036854775807)
    (hm : (0 < a1 ∧ m = a1) ∨ (a1 ≤ 0 ∧ m = 0)) (hn : num_Reader_Num.f s0_0 m = some (n, p)) (hn0 : 0 ≤ n) (hn1 : n < 18446744073709551616) :
    Calls Try.prog 61 #[.pointer (some ⟨g, 0, none⟩), .int .i64 a1] w fun e w' => e = .returned (.string (if p.e = 0 then (if (p.b.length : Int) < n then ⟨#[]⟩ else strOfNums (p.b.take n.toNat)) else ⟨#[]⟩)) ∧ IsS107 w0 w' g (if p.e = 0 then (if (p.b.length : Int) < n then ⟨[], 6⟩ else ⟨p.b.drop n.toNat, 0⟩) else p) ∧ Below w0.heap.size w0 w' ∧ KeepBut w w' g none := by
  have hI2 := Aside0.mk hI
  have hB2 := Aside0.mk hB
  have hn2 := Aside0.mk hn
  clear hI hB hn hn1
  by_cases he : p.e = 0
  · rw [if_pos he, if_pos he]
    have t1 : (p.e != 0) = false := by simp [he]
    have he2 := Aside0.mk he
    clear he
    by_cases hs : (p.b.length : Int) < n
    · rw [if_pos hs, if_pos hs]
      have t2 : decide ((p.b.length : Int) < n) = true := decide_eq_true hs
      clear hs
      rcases hm with ⟨hm, rfl⟩ | ⟨hm, rfl⟩
      all_goals
        go_enter Try.func61, Try.ntmps61
        go_wp2_with (first | (go_at_call 62; refine (num_Reader_Num.calls g s0_0 _ _ p w0 _ hI2.out hB2.out hn2.out).mono ?_; rintro e1 w1 ⟨rfl, hI3, hB3, hK3⟩; have hI4 := Aside0.mk hI3; have hB4 := Aside0.mk hB3; have hK4 := Aside0.mk hK3; obtain ⟨A1, k1, cc1, cc0, ff0, hlm, hS1⟩ := IsS107.open_ hI3; clear hI3 hB3 hK3) | (go_at_call 65; refine (fail_ok g p _ w0 _ hI4.out hB4.out).mono ?_; rintro e1 w2 ⟨rfl, hI3, hB3, hK3⟩; have hI5 := Aside0.mk hI3; have hB5 := Aside0.mk hB3; have hK5 := Aside0.mk hK3; clear hI3 hB3 hK3))
        go_ret
        exact ⟨rfl, hI5.out, hB5.out, hK4.out.trans hK5.out (.inl rfl)⟩
    · rw [if_neg hs, if_neg hs]
      have t2 : decide ((p.b.length : Int) < n) = false := decide_eq_false hs
      obtain ⟨j, rfl⟩ := Int.eq_ofNat_of_zero_le hn0
      have hj : j ≤ p.b.length := by omega
      have t3 : decide (p.b.length < j) = false := decide_eq_false (by omega)
      clear hs hn0
      rcases hm with ⟨hm, rfl⟩ | ⟨hm, rfl⟩
      all_goals
        go_enter Try.func61, Try.ntmps61
        go_wp2_with (go_at_call 62; refine (num_Reader_Num.calls g s0_0 _ _ p w0 _ hI2.out hB2.out hn2.out).mono ?_; rintro e1 w1 ⟨rfl, hI3, hB3, hK3⟩; have hI4 := Aside0.mk hI3; have hB4 := Aside0.mk hB3; have hK4 := Aside0.mk hK3; obtain ⟨A1, k1, cc1, cc0, ff0, hlm, hS1⟩ := IsS107.open_ hI3; have hcv := conv_take hS1.out.2.2.1 hB3 k1 hj; have hjk : j ≤ k1 := Nat.le_trans hj hS1.out.2.2.2.1; clear hI3 hB3 hK3)
        · have hA := Kd.C_drop (m := j) (c := k1) hS1.out.2.2.1 hj hS1.out.2.2.2.1
          have hl2 : (p.b.drop j).length = p.b.length - j := List.length_drop
          have hcj : k1 = j := by assumption
          rw [if_pos hcj] at hA
          go_ret
          exact ⟨rfl, ⟨_, _, by rw [hl2, ← he2.out]; exact blk_put hS1.out.1 0 _ rfl, hS1.out.2.1, hA, by have := hS1.out.2.2.2.1; rw [hl2]; omega, hS1.out.2.2.2.2.drop _⟩, below_set hB4.out hS1.out.2.1, hK4.out.set_ _ _⟩
        · have hA := Kd.C_drop (m := j) (c := k1) hS1.out.2.2.1 hj hS1.out.2.2.2.1
          have hl2 : (p.b.drop j).length = p.b.length - j := List.length_drop
          have hcj : ¬ k1 = j := by assumption
          rw [if_neg hcj, show j * (Kd.int .u8).sz = j from Nat.mul_one _] at hA
          go_ret
          exact ⟨rfl, ⟨_, _, by rw [hl2, ← he2.out]; exact blk_put hS1.out.1 0 _ rfl, hS1.out.2.1, hA, by have := hS1.out.2.2.2.1; rw [hl2]; omega, hS1.out.2.2.2.2.drop _⟩, below_set hB4.out hS1.out.2.1, hK4.out.set_ _ _⟩
  · rw [if_neg he, if_neg he]
    have t1 : (p.e != 0) = true := by simpa using he
    have he2 := Aside0.mk he
    clear he
    rcases hm with ⟨hm, rfl⟩ | ⟨hm, rfl⟩
    all_goals
      go_enter Try.func61, Try.ntmps61
      go_wp2_with (go_at_call 62; refine (num_Reader_Num.calls g s0_0 _ _ p w0 _ hI2.out hB2.out hn2.out).mono ?_; rintro e1 w1 ⟨rfl, hI3, hB3, hK3⟩; have hI4 := Aside0.mk hI3; have hB4 := Aside0.mk hB3; have hK4 := Aside0.mk hK3; obtain ⟨A1, k1, cc1, cc0, ff0, hlm, hS1⟩ := IsS107.open_ hI3; clear hI3 hB3 hK3)
      go_ret
      exact ⟨rfl, hI4.out, hB4.out, hK4.out⟩

theorem num_Reader_Text.calls (g : Nat) (s0_0 : RdS) (a1 : Int) (r1 : ByteArray) (r2 : RdS) (w0 w : World) (hI : IsS107 w0 w g s0_0) (hB : Below w0.heap.size w0 w) (h : num_Reader_Text.f s0_0 a1 = some (r1, r2)) :
    Calls Try.prog 61 #[.pointer (some ⟨g, 0, none⟩), .int .i64 a1] w fun e w' => e = .returned (.string r1) ∧ IsS107 w0 w' g r2 ∧ Below w0.heap.size w0 w' ∧ KeepBut w w' g none := by
  unfold num_Reader_Text.f at h
  by_cases hin : -9223372036854775808 ≤ a1 ∧ a1 ≤ 9223372036854775807
  · rw [if_pos hin, Option.some.injEq] at h
    obtain ⟨A, c, hb, hg, hC, hc, hy⟩ := hI
    have hb0 := rnum_range (most := if 0 < a1 then a1 else 0) hy
    obtain ⟨n, p, hq⟩ : ∃ n p, rnum s0_0 (if 0 < a1 then a1 else 0) = (n, p) := ⟨_, _, rfl⟩
    rw [hq] at hb0
    have hm2 : (0 < a1 ∧ (if 0 < a1 then a1 else 0) = a1) ∨ (a1 ≤ 0 ∧ (if 0 < a1 then a1 else 0) = 0) := by
      by_cases ha : 0 < a1
      · exact .inl ⟨ha, if_pos ha⟩
      · exact .inr ⟨by omega, if_neg ha⟩
    have := text_any g s0_0 a1 _ n p w0 w ⟨A, c, hb, hg, hC, hc, hy⟩ hB hin.1 hin.2 hm2 (by rw [num_Reader_Num.f, hq]) hb0.1 hb0.2
    refine this.mono fun e w' he => ?_
    simp only [rtext, hq] at h
    by_cases he0 : p.e = 0
    · by_cases hs : (p.b.length : Int) < n
      · rw [if_pos he0, if_pos hs] at h he
        rw [if_pos he0, if_pos hs] at he
        obtain ⟨rfl, rfl⟩ := Prod.mk.inj h
        exact he
      · rw [if_pos he0, if_neg hs] at h he
        rw [if_pos he0, if_neg hs] at he
        obtain ⟨rfl, rfl⟩ := Prod.mk.inj h
        exact he
    · rw [if_neg he0] at h he
      rw [if_neg he0] at he
      obtain ⟨rfl, rfl⟩ := Prod.mk.inj h
      exact he
  · rw [if_neg hin] at h
    cases h

theorem bytB_byt {l : List Int} (h : bytB l = true) : Byt l := fun x hx => by
  have := List.all_eq_true.mp h x hx
  simp at this
  exact this

theorem num_Read.calls (A0 : Option Addr) (c0 : Nat) (l0 : List Int) (r : RdS) (w0 w : World) (hB : Below w0.heap.size w0 w) (hr0 : Kd.C (Kd.int .u8) w0 A0 l0.length l0) (hc0 : l0.length ≤ c0) (h : num_Read.f l0 = some r) :
    Calls Try.prog 60 #[.slice A0 l0.length c0] w fun e w' => ∃ g_ : Nat, e = .returned (.pointer (some ⟨g_, 0, none⟩)) ∧ IsS107 w0 w' g_ r ∧ Below w0.heap.size w0 w' ∧ Below w.heap.size w w' := by
  unfold num_Read.f at h
  by_cases hy : bytB l0 = true
  · rw [if_pos hy, Option.some.injEq] at h
    subst h
    have hr1 := Aside0.mk hr0
    have hc1 := Aside0.mk hc0
    have hB1 := Aside0.mk hB
    have hy1 := Aside0.mk hy
    clear hr0 hc0 hB hy
    go_enter Try.func60, Try.ntmps60
    go_wp2
    go_ret
    exact ⟨w.heap.size, rfl, ⟨A0, c0, heap_alloc_new w _, hB1.out.size, hr1.out, hc1.out, bytB_byt hy1.out⟩, below_alloc hB1.out _, below_alloc (Below.refl _ _) _⟩
  · rw [if_neg hy] at h
    cases h
end Go.Proofs.Ytihmfccpgahmaaa.Q
