/- The law's own 'right' tells false of a message that is not right (kinds 2). No conditions beyond the texts' sizes. -/
import Derived.Test.YtolcmjoapnldiaaMsgLawG
import Derived.Test.YtolcmjoapnldiaaWLast
namespace Go.Proofs.Ytolcmjoapnldiaa.Msg
open Go Go.RowKit Go.Proofs.Ytolcmjoapnldiaa.Q Go.Proofs.YtolcmjoapnldiaaW.PrintWords Go.Proofs.YtolcmjoapnldiaaW.PrintLast Go.Proofs.Ytolcmjoapnldiaa.Str
set_option linter.unusedVariables false
set_option linter.unusedSimpArgs false

set_option maxRecDepth 100000 in
set_option maxHeartbeats 4000000 in
theorem false_k2 (src dst tnum node life num op : Int) (key val : ByteArray) (has : Bool) (code : Int) (w : World) (hk : key.size ≤ 9223372036854775807) (hv : val.size ≤ 9223372036854775807) (HR : Aside0 (rightM ⟨2, src, dst, tnum, node, life, num, op, key, val, has, code⟩ = false)) :
    Calls Try.prog 32 #[MsgV.lay ⟨2, src, dst, tnum, node, life, num, op, key, val, has, code⟩] w fun e w' => e = .returned (.bool false) ∧ Below w.heap.size w w' := by
  have HE := Aside0.mk (isE key)
  unfold MsgV.lay
  dsimp only
  go_enter Try.func32, Try.ntmps32
  go_wp2_with (go_at_call 39; refine (in_ok _ _).mono ?_; rintro e w' ⟨rfl, rfl⟩)
  all_goals
    go_ret
    first
      | exact ⟨rfl, below_alloc (Below.refl _ _) _⟩
      | (have hr := HR.out
         have hke := HE.out
         clear HR HE
         simp only [rightM, rt1, rt2, rt3, rt4, rt5, hasL_k2, hasN_k2, hasO_k2, hasA_k2] at hr
         refine ⟨?_, below_alloc (Below.refl _ _) _⟩
         by_cases hc : code = 0
         · first | (simp_all; done) | (simp_all; omega) | (simp [*] at hr; done) | (simp [*] at hr; omega)
         · first | (simp [hc]; done) | (simp_all; done) | (simp_all; omega))

set_option maxRecDepth 100000 in
set_option maxHeartbeats 4000000 in
theorem false_k3 (src dst tnum node life num op : Int) (key val : ByteArray) (has : Bool) (code : Int) (w : World) (hk : key.size ≤ 9223372036854775807) (hv : val.size ≤ 9223372036854775807) (HR : Aside0 (rightM ⟨3, src, dst, tnum, node, life, num, op, key, val, has, code⟩ = false)) :
    Calls Try.prog 32 #[MsgV.lay ⟨3, src, dst, tnum, node, life, num, op, key, val, has, code⟩] w fun e w' => e = .returned (.bool false) ∧ Below w.heap.size w w' := by
  have HE := Aside0.mk (isE key)
  unfold MsgV.lay
  dsimp only
  go_enter Try.func32, Try.ntmps32
  go_wp2_with (go_at_call 39; refine (in_ok _ _).mono ?_; rintro e w' ⟨rfl, rfl⟩)
  all_goals
    go_ret
    first
      | exact ⟨rfl, below_alloc (Below.refl _ _) _⟩
      | (have hr := HR.out
         have hke := HE.out
         clear HR HE
         simp only [rightM, rt1, rt2, rt3, rt4, rt5, hasL_k3, hasN_k3, hasO_k3, hasA_k3] at hr
         refine ⟨?_, below_alloc (Below.refl _ _) _⟩
         have hkn : key.toList.isEmpty = false := by
           rw [hke, decide_eq_false_iff_not]
           omega
         clear hke
         rw [hkn] at hr
         by_cases hc : code = 0
         · first | (simp_all; done) | (simp_all; omega) | (simp [*] at hr; done) | (simp [*] at hr; omega)
         · first | (simp [hc]; done) | (simp_all; done) | (simp_all; omega))

end Go.Proofs.Ytolcmjoapnldiaa.Msg
