/- The law WalNeeds, walked: true, for whatever number. -/
import Derived.Test.YtihmfccpgahmaaaWalHead
import Derived.Test.YtihmfccpgahmaaaQ3
namespace Go.Proofs.Ytihmfccpgahmaaa.Wal
open Go Go.RowKit
open Go.Proofs.YtihmfccpgahmaaaW.PrintWords hiding Kept Kept.refl
open Go.Proofs.YtihmfccpgahmaaaW.PrintMore Go.Proofs.YtihmfccpgahmaaaW.PrintLast Go.Proofs.Ytihmfccpgahmaaa.Dk Go.Proofs.Ytihmfccpgahmaaa.Q Go.Proofs.Ytihmfccpgahmaaa.Str Go.Proofs.Ytihmfccpgahmaaa.Leb
set_option linter.unusedVariables false
set_option linter.unusedSimpArgs false
theorem need_l0 : ∀ (d k : Nat) (a r : Int), a ≤ 480 * ((d : Int) + 1) → d + 1 ≤ k → -9223372036854775808 ≤ a ∧ a ≤ 9223372036854775807 → 0 ≤ r → r + d < 9223372036854775000 → dockmasterlaw05_need.l0 k a r = some (r + needI a - 1) := by
  intro d
  induction d with
  | zero =>
    intro k a r h hk _ _ _
    obtain ⟨k, rfl⟩ : ∃ m, k = m + 1 := ⟨k - 1, by omega⟩
    simp only [dockmasterlaw05_need.l0]
    rw [if_neg (by omega)]
    have : needI a = 1 := by unfold needI; split <;> omega
    rw [this]; congr 1; omega
  | succ d ih =>
    intro k a r h hk h0 hr hd
    obtain ⟨k, rfl⟩ : ∃ m, k = m + 1 := ⟨k - 1, by omega⟩
    simp only [dockmasterlaw05_need.l0]
    by_cases hc : a > 480
    · rw [if_pos hc]
      have e1 : wrap64 (a - 480) = a - 480 := by unfold wrap64; omega
      have e2 : wrap64 (r + 1) = r + 1 := by unfold wrap64; omega
      rw [e1, e2, ih k (a - 480) (r + 1) (by omega) (by omega) (by omega) (by omega) (by omega)]
      have : needI a = needI (a - 480) + 1 := by unfold needI; rw [if_pos (by omega : 1 < a)]; split <;> omega
      rw [this]; congr 1; omega
    · rw [if_neg hc]
      have : needI a = 1 := by unfold needI; split <;> omega
      rw [this]; congr 1; omega
theorem need_r (n : Int) (h0 : -9223372036854775808 ≤ n) (h1 : n ≤ 100000) (w : World) : Calls Try.prog 34 #[.int .i64 n] w fun e w' => e = .returned (.int .i64 (needI n)) ∧ Below w.heap.size w w' := by
  refine (dockmasterlaw05_need.calls 300 n (needI n) w (by unfold dockmasterlaw05_need.f; rw [need_l0 220 300 n 1 (by omega) (by omega) (by omega) (by omega) (by omega)]; congr 1; omega)).mono ?_
  rintro e w' ⟨he, m, hm⟩
  exact ⟨he, hm ▸ below_drewN w m⟩
namespace WalNeeds
set_option maxRecDepth 100000 in
set_option maxHeartbeats 4000000 in
theorem law_ok (n : Int) (w : World) (hn : (Lit.int .i64 n).wf = true) : Calls Try.prog 9 #[.int .i64 n] w fun e w' => e = .returned (.bool true) ∧ Below w.heap.size w w' := by
  have hb := bounds_i64 hn
  obtain ⟨h0, h1⟩ := hb
  by_cases hc : 100000 < n
  · have t1 : decide (100000 < n) = true := decide_eq_true hc
    have t2 : decide (200 < needI n) = true := decide_eq_true (by unfold needI; rw [if_pos (by omega)]; omega)
    have H1 := Aside0.mk (show n < 9223372036854775808 by omega)
    clear hc hn h0 h1
    go_enter Try.func9, Try.ntmps9
    go_wp2_with fail
    refine (head_ok _).mono ?_
    rintro e w1 ⟨rfl, hb⟩
    have HB := Aside0.mk hb
    clear hb
    go_wp2_with fail
    refine (need_i n H1.out _).mono ?_
    rintro e w2 ⟨rfl, hb⟩
    have HB2 := Aside0.mk (below_step HB.out hb)
    clear hb
    go_wp2
    go_ret
    exact ⟨rfl, HB2.out⟩
  · have t1 : decide (100000 < n) = false := decide_eq_false hc
    have H1 := Aside0.mk (show n < 9223372036854775808 ∧ -9223372036854775808 ≤ n ∧ n ≤ 100000 by omega)
    clear hc hn h0 h1
    go_enter Try.func9, Try.ntmps9
    go_wp2_with fail
    refine (head_ok _).mono ?_
    rintro e w1 ⟨rfl, hb⟩
    have HB := Aside0.mk hb
    clear hb
    go_wp2_with fail
    refine (need_i n H1.out.1 _).mono ?_
    rintro e w2 ⟨rfl, hb⟩
    have HB2 := Aside0.mk (below_step HB.out hb)
    clear hb HB
    go_wp2_with fail
    refine (need_r n H1.out.2.1 H1.out.2.2 _).mono ?_
    rintro e w3 ⟨rfl, hb⟩
    have HB3 := Aside0.mk (below_step HB2.out hb)
    clear hb HB2
    go_wp2
    go_ret
    exact ⟨by simp, HB3.out⟩
end WalNeeds
end Go.Proofs.Ytihmfccpgahmaaa.Wal
