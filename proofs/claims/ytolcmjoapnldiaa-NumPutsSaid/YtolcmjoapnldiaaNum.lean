/- What num's Put, Text and Tid lay onto nothing, walked: contracts in terms of the plain functions of Leb. Conditions: numbers fit 64 bits, texts are short. -/
import Derived.Test.YtolcmjoapnldiaaQ3
import Derived.Test.YtolcmjoapnldiaaQ4
import Derived.Test.YtolcmjoapnldiaaQ5
import Derived.Test.YtolcmjoapnldiaaLeb
import Derived.Test.YtolcmjoapnldiaaWInvWords
import Derived.Test.YtolcmjoapnldiaaWLast
import Derived.Test.YtolcmjoapnldiaaRd
namespace Go.Proofs.Ytolcmjoapnldiaa.Num
open Go Go.RowKit Go.Proofs.Ytolcmjoapnldiaa.Q Go.Proofs.YtolcmjoapnldiaaW.PrintWords Go.Proofs.Ytolcmjoapnldiaa.Leb Go.Proofs.Ytolcmjoapnldiaa.Str

/-- What the printed Put tells: with rounds enough it lays leb behind what was there. -/
theorem put_l0 : ∀ (n : Nat) (k : Nat) (l : List Int), (leb n).length ≤ k → l.length + (leb n).length ≤ 140737488355328 → num_Put.l0 k l (n : Int) = some (l ++ leb n) := by
  intro n
  induction n using Nat.strongRecOn with
  | _ n ih =>
    intro k l hk hl
    have hp := leb_pos n
    obtain ⟨k, rfl⟩ : ∃ m, k = m + 1 := ⟨k - 1, by omega⟩
    by_cases c : n < 128
    · simp only [num_Put.l0]
      rw [if_neg (by omega)]
      rw [leb_lt c] at hl ⊢
      simp only [List.length_cons, List.length_nil] at hl
      rw [if_pos (by omega), Int.emod_eq_of_lt (by omega) (by omega)]
    · rw [leb_ge (by omega)] at hl hk ⊢
      simp only [List.length_cons] at hl hk
      simp only [num_Put.l0]
      rw [if_pos (by omega), if_pos (by omega), or128_leb, show ((n : Nat) : Int) / 128 = ((n / 128 : Nat) : Int) by omega]
      rw [ih (n / 128) (by omega) k (l ++ [((n % 128 + 128 : Nat) : Int)]) (by omega) (by simp; omega)]
      simp
theorem put_l (n k : Nat) (l : List Int) (h : n < 18446744073709551616) (hk : 10 ≤ k) (hl : l.length ≤ 140737488355000) : num_Put.f k l (n : Int) = some (l ++ leb n) := by
  have := leb_ten h
  unfold num_Put.f
  exact put_l0 n k l (by omega) (by omega)

theorem put_f (n k : Nat) (h : n < 18446744073709551616) (hk : 10 ≤ k) : num_Put.f k [] (n : Int) = some (leb n) := put_l n k [] h hk (by simp)

theorem head_f (k : Nat) (hk : 10 ≤ k) : dockmasterlaw01_head.f k = some true := by
  have a1 := put_f 300 k (by decide) hk
  have a2 := put_f 5 k (by decide) hk
  have a3 := put_l 1 k [5] (by decide) hk (by simp)
  have e1 : leb 300 = [172, 2] := by simp [leb]
  have e2 : leb 5 = [5] := by simp [leb]
  have e3 : leb 1 = [1] := by simp [leb]
  have w : IntKind.u64.wrap 1 = 1 := by decide
  rw [e1] at a1; rw [e2] at a2; rw [e3] at a3
  unfold dockmasterlaw01_head.f num_Tid.f
  rw [show (300 : Int) = ((300 : Nat) : Int) from rfl, a1]
  simp only [Option.bind_some]
  rw [if_pos (by rw [Lib.strOfNums_toList]; rfl), show (5 : Int) = ((5 : Nat) : Int) from rfl, a2]
  simp only [Option.bind_some]
  rw [w, show (1 : Int) = ((1 : Nat) : Int) from rfl, a3]
  rw [Option.bind_some, Option.bind_some, Lib.strOfNums_toList]; rfl
theorem text_l (k : Nat) (l : List Int) (s : ByteArray) (hs : s.size < 140737488350000) (hk : 10 ≤ k) (hl : l.length + s.size ≤ 140737488355000) : num_Text.f k l s = some (l ++ (leb s.size ++ bytesOf s)) := by
  have h10 := leb_ten (n := s.size) (by omega)
  unfold num_Text.f
  have w : IntKind.u64.wrap ((s.size : Int)) = ((s.size : Nat) : Int) := by simp [IntKind.wrap, IntKind.bits, IntKind.signed]; omega
  rw [w, put_l s.size k l (by omega) hk (by omega)]
  simp only [Option.bind_some]
  rw [if_pos (by simp; omega), List.append_assoc]

/-- What is laid of a transaction. -/
def tidN (m n : Int) : List Int := leb m.toNat ++ leb (IntKind.u64.wrap n).toNat

theorem wrap_u64_range (n : Int) : 0 ≤ IntKind.u64.wrap n ∧ IntKind.u64.wrap n < 18446744073709551616 := by
  simp only [IntKind.wrap, IntKind.bits, IntKind.signed]
  constructor
  · exact Int.emod_nonneg _ (by decide)
  · exact Int.emod_lt_of_pos _ (by decide)

theorem tid_l (k : Nat) (l : List Int) (m n : Int) (h0 : 0 ≤ m) (h1 : m < 18446744073709551616) (hk : 10 ≤ k) (hl : l.length ≤ 140737488350000) : num_Tid.f k l m n = some (l ++ tidN m n) := by
  obtain ⟨a, rfl⟩ := Int.eq_ofNat_of_zero_le h0
  have hr := wrap_u64_range n
  obtain ⟨b, hb⟩ := Int.eq_ofNat_of_zero_le hr.1
  have h10 := leb_ten (n := a) (by omega)
  unfold num_Tid.f tidN
  rw [hb] at hr ⊢
  rw [put_l a k l (by omega) hk (by omega)]
  simp only [Option.bind_some]
  rw [put_l b k _ (by omega) hk (by simp; omega)]
  simp

/-- Bytes that are read. -/
structure Cs (w : World) (A : Option Addr) (c : Nat) (l : List Int) : Prop where
  le : l.length ≤ c
  C : Kd.C (Kd.int .u8) w A l.length l

theorem Cs.step {w w' : World} {A : Option Addr} {c : Nat} {l : List Int} (h : Cs w A c l) (hb : Below w.heap.size w w') : Cs w' A c l := ⟨h.le, Kd.C_below h.C hb⟩
theorem Cs.conv {w W : World} {A : Option Addr} {c : Nat} {l : List Int} (h : Cs w A c l) (hW : Below w.heap.size w W) : (convert 24 9 (.slice A l.length c)).run Try.prog W = .ok (.string (strOfNums l)) W := by
  have := conv_take h.C hW c (Nat.le_refl _)
  rw [List.take_length] at this
  exact this

theorem undrew {w w' : World} (h : Below w.drew.heap.size w.drew w') : Below w.heap.size w w' := ⟨h.os, h.tape, h.output, h.size, h.block⟩
theorem undrewN {w w' : World} {n : Nat} (h : Below (w.drewN n).heap.size (w.drewN n) w') : Below w.heap.size w w' := ⟨h.os, h.tape, h.output, h.size, h.block⟩
theorem drewn (w : World) (n : Nat) : Below w.heap.size w (w.drewN n) := pw_below_drewN (Below.refl _ _) n

theorem cs_of {w' : World} {base : Nat} {ok : Nat → Prop} {v : Value} {l : List Int} (h : Kd.R (Kd.int .u8) 5 w' base ok v l) : ∃ A c, v = .slice A l.length c ∧ Cs w' A c l := by
  obtain ⟨A, c, he, hl, hC⟩ := Kd.R_reads h
  exact ⟨A, c, he, hl, hC⟩

theorem put_nil (n : Nat) (h : n < 18446744073709551616) (w : World) :
    Calls Try.prog 16 #[.slice none 0 0, .int .u64 n] w fun e w' => ∃ A c, e = .returned (.slice A (leb n).length c) ∧ Cs w' A c (leb n) ∧ Below w.heap.size w w' := by
  refine (num_Put.calls 10 (fun _ => False) (.slice none 0 0) [] n (leb n) w w (Below.refl _ _) (Kd.R_nil _ _ _ _ _) (put_f n 10 h (by omega))).mono ?_
  rintro e w' ⟨v0, rfl, hR, hB, _⟩
  obtain ⟨A, c, rfl, hs⟩ := cs_of hR
  exact ⟨A, c, rfl, hs, hB⟩

/-- What is laid of a text. -/
def textN (s : ByteArray) : List Int := leb s.size ++ bytesOf s

theorem text_nil (s : ByteArray) (h : s.size < 140737488350000) (w : World) :
    Calls Try.prog 18 #[.slice none 0 0, .string s] w fun e w' => ∃ A c, e = .returned (.slice A (textN s).length c) ∧ Cs w' A c (textN s) ∧ Below w.heap.size w w' := by
  refine (num_Text.calls 10 (fun _ => False) (.slice none 0 0) [] s (textN s) w w (Below.refl _ _) (Kd.R_nil _ _ _ _ _) (text_l 10 [] s h (by omega) (by simp; omega))).mono ?_
  rintro e w' ⟨v0, rfl, hR, hB, _⟩
  obtain ⟨A, c, rfl, hs⟩ := cs_of hR
  exact ⟨A, c, rfl, hs, hB⟩

theorem tid_nil (m n : Int) (h0 : 0 ≤ m) (h1 : m < 18446744073709551616) (w : World) :
    Calls Try.prog 19 #[.slice none 0 0, .agg #[.int .u64 m, .int .i64 n]] w fun e w' => ∃ A c, e = .returned (.slice A (tidN m n).length c) ∧ Cs w' A c (tidN m n) ∧ Below w.heap.size w w' := by
  refine (num_Tid.calls 10 (fun _ => False) (.slice none 0 0) [] m n (tidN m n) w w (Below.refl _ _) (Kd.R_nil _ _ _ _ _) (tid_l 10 [] m n h0 h1 (by omega) (by simp))).mono ?_
  rintro e w' ⟨v0, rfl, hR, hB, _⟩
  obtain ⟨A, c, rfl, hs⟩ := cs_of hR
  exact ⟨A, c, rfl, hs, hB⟩

theorem head_ok (w : World) : Calls Try.prog 15 #[] w fun e w' => e = .returned (.bool true) ∧ Below w.heap.size w w' :=
  dockmasterlaw01_head.calls 10 true w (head_f 10 (by omega))

section
variable {P : Program} {ops : Array Oper} {Q : Exit → Act → World → Prop}
/-- A call of a function value that stands in a slot, within a region that draws. -/
theorem goesV_ {oi : Oper} {N : Option Tmp} {a : Act} {w : World} {K : Act → World → Prop} {t : Tmp} {f : FuncId} {fn : Func} {xs : Array Operand} {ts : Array TypeId} (hf : P.funcs[f]? = some fn) (hname : (fn.name == "runtime.NumGoroutine") = false) (hb : fn.body.isSome = true) (args : Array Value)
    (hw : Region.wanted oi (yielded ops a.tmps) = true) (hN : oi.dst = N) (hop : oi.op = .call { callee := .value (.tmp t), args := xs, argTypes := ts }) (hv : a.tmps[t]? = some (.func (.func f) #[] #[])) (hargs : xs.map a.eval = args)
    (h : Calls P f args w fun e w' => ∃ v, e = .returned v ∧ K (a.put N v) w') : if Region.wanted oi (yielded ops a.tmps) = true then Oper.wp P oi a w K Q else K (a.put N undef) w := by
  refine YtolcmjoapnldiaaW.PrintLast.call_ f args hw hN ?_ h
  have he := YtolcmjoapnldiaaW.PrintLast.enters_ hf hname hb args w
  unfold execOp
  simp [hop, resolve, Deferred.ofValue, invoke, Act.eval, hv, hargs, he]
end
end Go.Proofs.Ytolcmjoapnldiaa.Num
