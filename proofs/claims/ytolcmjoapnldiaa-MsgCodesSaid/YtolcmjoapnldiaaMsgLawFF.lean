/- The law's own 'right' tells false of a message that is not right (other kinds). No conditions beyond the texts' sizes. -/
import Derived.Test.YtolcmjoapnldiaaMsgLawG
import Derived.Test.YtolcmjoapnldiaaWLast
namespace Go.Proofs.Ytolcmjoapnldiaa.Msg
open Go Go.RowKit Go.Proofs.Ytolcmjoapnldiaa.Q Go.Proofs.YtolcmjoapnldiaaW.PrintWords Go.Proofs.YtolcmjoapnldiaaW.PrintLast Go.Proofs.Ytolcmjoapnldiaa.Str
set_option linter.unusedVariables false
set_option linter.unusedSimpArgs false

set_option maxRecDepth 100000 in
set_option maxHeartbeats 4000000 in
theorem false_lo (kind src dst tnum node life num op : Int) (key val : ByteArray) (has : Bool) (code : Int) (w : World) (hk : key.size ≤ 9223372036854775807) (hv : val.size ≤ 9223372036854775807) (h : kind < 1) :
    Calls Try.prog 32 #[MsgV.lay ⟨kind, src, dst, tnum, node, life, num, op, key, val, has, code⟩] w fun e w' => e = .returned (.bool false) ∧ Below w.heap.size w w' := by
  unfold MsgV.lay
  dsimp only
  have b1 : decide (kind < 1) = true := decide_eq_true h
  clear h
  go_enter Try.func32, Try.ntmps32
  go_wp2_with (go_at_call 39; refine (in_ok _ _).mono ?_; rintro e w' ⟨rfl, rfl⟩)
  all_goals
    go_ret
    exact ⟨rfl, below_alloc (Below.refl _ _) _⟩

set_option maxRecDepth 100000 in
set_option maxHeartbeats 4000000 in
theorem false_hi (kind src dst tnum node life num op : Int) (key val : ByteArray) (has : Bool) (code : Int) (w : World) (hk : key.size ≤ 9223372036854775807) (hv : val.size ≤ 9223372036854775807) (h : 10 < kind) :
    Calls Try.prog 32 #[MsgV.lay ⟨kind, src, dst, tnum, node, life, num, op, key, val, has, code⟩] w fun e w' => e = .returned (.bool false) ∧ Below w.heap.size w w' := by
  unfold MsgV.lay
  dsimp only
  have b0 : decide (kind < 1) = false := decide_eq_false (by omega)
  have b1 : decide (10 < kind) = true := decide_eq_true h
  clear h
  go_enter Try.func32, Try.ntmps32
  go_wp2_with (go_at_call 39; refine (in_ok _ _).mono ?_; rintro e w' ⟨rfl, rfl⟩)
  all_goals
    go_ret
    exact ⟨rfl, below_alloc (Below.refl _ _) _⟩

set_option maxRecDepth 100000 in
set_option maxHeartbeats 4000000 in
theorem false_oo (kind src dst tnum node life num op : Int) (key val : ByteArray) (has : Bool) (code : Int) (w : World) (hk : key.size ≤ 9223372036854775807) (hv : val.size ≤ 9223372036854775807) (hl0 : 0 ≤ life) (g1 : ¬ kind < 1) (g2 : ¬ 10 < kind) (h2 : (kind == 2) = false) (h3 : (kind == 3) = false) (h4 : (kind == 4) = false) (h5 : (kind == 5) = false) (h6 : (kind == 6) = false) (HR : Aside0 (rightM ⟨kind, src, dst, tnum, node, life, num, op, key, val, has, code⟩ = false)) :
    Calls Try.prog 32 #[MsgV.lay ⟨kind, src, dst, tnum, node, life, num, op, key, val, has, code⟩] w fun e w' => e = .returned (.bool false) ∧ Below w.heap.size w w' := by
  have HE := Aside0.mk (isE key)
  have HV := Aside0.mk (isE val)
  unfold MsgV.lay
  dsimp only
  have n2 : ¬ kind = 2 := by simpa using h2
  have n3 : ¬ kind = 3 := by simpa using h3
  have n4 : ¬ kind = 4 := by simpa using h4
  have n5 : ¬ kind = 5 := by simpa using h5
  have n6 : ¬ kind = 6 := by simpa using h6
  have b0 : decide (kind < 1) = false := decide_eq_false g1
  have b1 : decide (10 < kind) = false := decide_eq_false g2
  have m2 : (kind != 2) = true := by simpa using n2
  have m3 : (kind != 3) = true := by simpa using n3
  have m4 : (kind != 4) = true := by simpa using n4
  have m5 : (kind != 5) = true := by simpa using n5
  have m6 : (kind != 6) = true := by simpa using n6
  go_enter Try.func32, Try.ntmps32
  go_wp2_with (go_at_call 39; refine (in_ok _ _).mono ?_; rintro e w' ⟨rfl, rfl⟩)
  all_goals first
    | (go_ret
       exact ⟨rfl, below_alloc (Below.refl _ _) _⟩)
    | (go_ret
       have hr := HR.out
       have hke := HE.out
       have hve := HV.out
       clear HR HE HV
       simp only [rightM, rt1, rt2, rt3, rt4, rt5, hasL_o h2 h3 h4 h5 h6, hasN_o h2 h3 h4 h5 h6, hasO_o h2 h3 h4 h5 h6, hasA_o h2 h3 h4 h5 h6] at hr
       refine ⟨?_, below_alloc (Below.refl _ _) _⟩
       by_cases hc : code = 0
       · exfalso
         have f1 := decide_eq_false (show ¬ (1099511627776 < tnum) by omega)
         have f2 := decide_eq_false (show ¬ (1099511627776 < life) by omega)
         have f3 := decide_eq_false (show ¬ (num < 0) by omega)
         have f4 := decide_eq_false (show ¬ (1048576 < num) by omega)
         have f5 := decide_eq_false (show ¬ (48 < val.size) by omega)
         have f6 := decide_eq_false (show ¬ (code < 0) by omega)
         have f7 := decide_eq_false (show ¬ (17 < code) by omega)
         have ko : key.toList.isEmpty = true := by simp [‹key.toList = []›]
         have vo : val.toList.isEmpty = true := by simpa using ‹(!val.toList.isEmpty) = false›
         have so := ‹nodeB src = true›
         have do_ := ‹nodeB dst = true›
         have no := ‹nodeB node = true›
         have li := ‹(life != 0) = false›
         have nu := ‹(num != 0) = false›
         have oo := ‹op = 0›
         have ha := ‹has = false›
         rw [b0, b1, so, do_, no, f1, li, f2, nu, f3, f4, oo, ko, vo, ha, f5, hc] at hr
         simp at hr
       · have : (code != 0) = true := by simpa using hc
         first | (simp [hc]; done) | (simp_all; done))

theorem false_o (kind src dst tnum node life num op : Int) (key val : ByteArray) (has : Bool) (code : Int) (w : World) (hk : key.size ≤ 9223372036854775807) (hv : val.size ≤ 9223372036854775807) (hl0 : 0 ≤ life) (h2 : (kind == 2) = false) (h3 : (kind == 3) = false) (h4 : (kind == 4) = false) (h5 : (kind == 5) = false) (h6 : (kind == 6) = false) (HR : Aside0 (rightM ⟨kind, src, dst, tnum, node, life, num, op, key, val, has, code⟩ = false)) :
    Calls Try.prog 32 #[MsgV.lay ⟨kind, src, dst, tnum, node, life, num, op, key, val, has, code⟩] w fun e w' => e = .returned (.bool false) ∧ Below w.heap.size w w' := by
  by_cases g1 : kind < 1
  · exact false_lo kind src dst tnum node life num op key val has code w hk hv g1
  · by_cases g2 : 10 < kind
    · exact false_hi kind src dst tnum node life num op key val has code w hk hv g2
    · exact false_oo kind src dst tnum node life num op key val has code w hk hv hl0 g1 g2 h2 h3 h4 h5 h6 HR

end Go.Proofs.Ytolcmjoapnldiaa.Msg
