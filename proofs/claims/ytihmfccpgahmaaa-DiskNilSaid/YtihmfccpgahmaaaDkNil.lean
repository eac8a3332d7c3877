/- The law DiskNil, walked: true, for whatever number and bytes. -/
import Derived.Test.YtihmfccpgahmaaaDkHead
namespace Go.Proofs.Ytihmfccpgahmaaa.Dk
open Go Go.RowKit Go.Proofs.YtihmfccpgahmaaaW.PrintWords Go.Proofs.YtihmfccpgahmaaaW.PrintMore Go.Proofs.YtihmfccpgahmaaaW.PrintLast
set_option linter.unusedVariables false
set_option linter.unusedSimpArgs false

theorem newLen (n : Nat) : (DA.new n).now.length = n := by simp [DA.new]
theorem newN_neg (n : Int) (h : n ≤ 0) : (((newN n).toNat : Nat) : Int) = 0 := by unfold newN; split <;> (try split) <;> omega
theorem newN_mid (n : Int) (h : 0 < n) (h2 : n ≤ 100) : (((newN n).toNat : Nat) : Int) = n := by unfold newN; split <;> (try split) <;> omega
theorem newN_hun : (((newN 100).toNat : Nat) : Int) = 100 := by decide
namespace DiskNil
theorem law_ok (n : Int) (A : Option Addr) (c : Nat) (l : List Int) (w : World) (hn : (Lit.int .i64 n).wf = true) (hc : l.length ≤ c) (hC : Kd.C (Kd.int .u8) w A l.length l) (hw : ∀ x ∈ l, (Lit.int .u8 x).wf = true) :
    Calls Try.prog 8 #[.int .i64 n, .slice A l.length c] w fun e w' => e = .returned (.bool true) ∧ Below w.heap.size w w' := by
  by_cases h6 : 600 < l.length
  · have t1 : decide (600 < l.length) = true := decide_eq_true h6
    have t2 : decide ((600 : Int) < (l.length : Int)) = true := decide_eq_true (by omega)
    clear h6 hC hw hn hc
    go_enter Try.func8, Try.ntmps8
    go_wp2_with fail
    refine (head_ok _).mono ?_
    rintro e w1 ⟨rfl, hb⟩
    have HB := Aside0.mk hb
    clear hb
    go_wp2
    go_ret
    exact ⟨rfl, HB.out⟩
  · have t1 : decide (600 < l.length) = false := decide_eq_false h6
    have t2 : decide ((600 : Int) < (l.length : Int)) = false := decide_eq_false (by omega)
    clear h6 hC hw hn hc
    rcases (show n ≤ 0 ∨ (0 < n ∧ n ≤ 100) ∨ 100 < n by omega) with hn | ⟨hn1, hn2⟩ | hn
    all_goals
      go_enter Try.func8, Try.ntmps8
      go_wp2_with fail
      refine (head_ok _).mono ?_
      rintro e w1 ⟨rfl, hb⟩
      have HB := Aside0.mk hb
      clear hb
      go_wp2_with fail
      refine (nil_fuse _).mono ?_
      rintro e w1 ⟨rfl, rfl⟩
      go_wp2_with fail
      refine (nil_off).mono ?_
      rintro e w1 ⟨rfl, rfl⟩
      go_wp2_with fail
      refine (nil_on _ _).mono ?_
      rintro e w1 ⟨rfl, rfl⟩
      go_wp2_with fail
      refine (nil_read _).mono ?_
      rintro e w1 ⟨rfl, rfl⟩
      go_wp2_with fail
      refine (nil_write _ _).mono ?_
      rintro e w1 ⟨rfl, rfl⟩
      go_wp2_with fail
      refine (nil_sync).mono ?_
      rintro e w1 ⟨rfl, rfl⟩
      go_wp2_with fail
      refine (nil_len).mono ?_
      rintro e w1 ⟨rfl, rfl⟩
      go_wp2_with fail
      refine (nil_down).mono ?_
      rintro e w1 ⟨rfl, rfl⟩
      go_wp2_with fail
      refine (nil_steps).mono ?_
      rintro e w1 ⟨rfl, rfl⟩
      go_wp2_with fail
      refine (nil_waits).mono ?_
      rintro e w1 ⟨rfl, rfl⟩
      go_wp2_with fail
      refine (st_new (w0 := w) _ _ HB.out).mono ?_
      rintro e w2 ⟨g, S, rfl, hi, _, _⟩
      have HI := Aside0.mk hi
      clear hi HB
      go_wp2_with fail
      refine (len_a HI.out.I).mono ?_
      rw [newLen]
      first
        | rw [newN_neg n hn]
        | rw [newN_mid n hn1 hn2]
        | rw [newN_hun]
      rintro e w1 ⟨rfl, rfl⟩
      go_wp2_with fail
      refine (st_new (w0 := w) _ _ HI.out.B).mono ?_
      rintro e w3 ⟨g2, S2, rfl, hi, _, _⟩
      have HI2 := Aside0.mk hi
      clear hi HI
      go_wp2_with fail
      refine (len_a HI2.out.I).mono ?_
      rw [newLen, show (((newN 131072).toNat : Nat) : Int) = 65536 by decide]
      rintro e w1 ⟨rfl, rfl⟩
      have HB := Aside0.mk HI2.out.B
      clear HI2
      go_wp2
      go_ret
      exact ⟨rfl, HB.out⟩
end DiskNil
end Go.Proofs.Ytihmfccpgahmaaa.Dk
