/- The law's own 'right' tells true of a right message. No conditions beyond the fields' bounds. -/
import Derived.Test.YtolcmjoapnldiaaMsgLawA
import Derived.Test.YtolcmjoapnldiaaMsgLawB
import Derived.Test.YtolcmjoapnldiaaMsgLawC
import Derived.Test.YtolcmjoapnldiaaMsgLawD
import Derived.Test.YtolcmjoapnldiaaMsgEnc
namespace Go.Proofs.Ytolcmjoapnldiaa.Msg
open Go Go.RowKit Go.Proofs.Ytolcmjoapnldiaa.Q Go.Proofs.YtolcmjoapnldiaaW.PrintWords Go.Proofs.YtolcmjoapnldiaaW.PrintLast Go.Proofs.Ytolcmjoapnldiaa.Str

theorem law_true (m : MsgV) (wm : Wf m) (h : rightM m = true) (w : World) :
    Calls Try.prog 32 #[m.lay] w fun e w' => e = .returned (.bool true) ∧ Below w.heap.size w w' := by
  have ha := rt_of m h
  obtain ⟨kind, src, dst, tnum, node, life, num, op, key, val, has, code⟩ := m
  obtain ⟨a1, a2, a3, a4, a5, a6, a7, a8, a9, a10, a11, a12, a13, a14, a15, a16⟩ := ha
  obtain ⟨w1, w2, w3, w4⟩ := wm
  dsimp only at *
  have b1 := nodeB_of a2
  have b2 := nodeB_of a3
  have b3 := nodeB_of a4
  have g1 : decide (1099511627776 < tnum) = false := decide_eq_false (by omega)
  have g2 : decide (1099511627776 < life) = false := decide_eq_false (by omega)
  have g3 : decide (num < 0) = false := decide_eq_false (by omega)
  have g4 : decide (1048576 < num) = false := decide_eq_false (by omega)
  have g5 : decide ((48 : Int) < (val.size : Int)) = false := decide_eq_false (by omega)
  have g6 : decide (48 < val.size) = false := decide_eq_false (by omega)
  have g7 : decide (code < 0) = false := decide_eq_false (by omega)
  have g8 : decide (17 < code) = false := decide_eq_false (by omega)
  rcases kinds kind with rfl | rfl | rfl | rfl | rfl | ⟨h2, h3, h4, h5, h6⟩
  · obtain ⟨rfl, rfl⟩ := a11 rfl
    obtain rfl := a9 rfl
    obtain rfl := a13 rfl (by decide)
    obtain rfl := a14 (by decide)
    obtain rfl := a15 rfl
    exact true_k2 src dst tnum node life b1 b2 b3 g1 g2 w
  · obtain ⟨o1, o2, o3⟩ := a10 rfl
    obtain rfl := a14 (by decide)
    obtain rfl := a15 rfl
    have h' := h
    simp only [rightM, rt3, rt4, hasO_k3, Bool.and_eq_true, Bool.not_eq_true', Bool.or_eq_false_iff, Bool.true_and, Bool.and_eq_false_iff] at h'
    obtain ⟨⟨⟨_, ⟨⟨⟨_, hk0⟩, _⟩, _⟩⟩, hv0, _⟩, _⟩ := h'
    have hk1 := size_pos hk0
    have q1 : decide ((key.size : Int) < 1) = false := decide_eq_false (by omega)
    have q2 : decide (key.size < 1) = false := decide_eq_false (by omega)
    have q3 : decide ((24 : Int) < (key.size : Int)) = false := decide_eq_false (by omega)
    have q4 : decide (24 < key.size) = false := decide_eq_false (by omega)
    have g9 : decide (op < 1) = false := decide_eq_false (by omega)
    have g10 : decide (3 < op) = false := decide_eq_false (by omega)
    by_cases hop : op = 2
    · subst hop
      exact true_k3a src dst tnum node life num key val b1 b2 b3 g1 g2 g3 g4 q1 q2 q3 q4 hk1 o3 g5 g6 w4 w
    · have hve : val = ByteArray.empty := by
        simp [hop] at hv0
        exact empty_of hv0
      subst hve
      exact true_k3b src dst tnum node life num op key b1 b2 b3 g1 g2 g3 g4 g9 g10 q1 q2 q3 q4 hk1 o3 w
  · obtain ⟨rfl, rfl⟩ := a11 rfl
    obtain rfl := a8 rfl
    cases has
    · have h' := h
      simp only [rightM, rt4, hasO_k4, Bool.and_eq_true, Bool.not_eq_true', Bool.or_eq_false_iff] at h'
      have hve : val = ByteArray.empty := by
        have := h'.1.2.1
        simp at this
        exact empty_of this
      subst hve
      exact true_k4a src dst tnum node num code b1 b2 b3 g1 g3 g4 g7 g8 w
    · exact true_k4b src dst tnum node num code val b1 b2 b3 g1 g3 g4 g7 g8 g5 g6 w4 w
  · obtain ⟨rfl, rfl⟩ := a11 rfl
    obtain rfl := a13 rfl (by decide)
    obtain rfl := a14 (by decide)
    obtain rfl := a15 rfl
    exact true_k5 src dst tnum node life num b1 b2 b3 g1 g2 g3 g4 w
  · obtain ⟨rfl, rfl⟩ := a11 rfl
    obtain rfl := a8 rfl
    obtain rfl := a9 rfl
    obtain rfl := a13 rfl (by decide)
    obtain rfl := a14 (by decide)
    exact true_k6 src dst tnum node code b1 b2 b3 g1 g7 g8 w
  · have n4 : ¬ kind = 4 := by simpa using h4
    have q3 := hasO_o h2 h3 h4 h5 h6
    obtain ⟨rfl, rfl⟩ := a11 q3
    obtain rfl := a8 (hasL_o h2 h3 h4 h5 h6)
    obtain rfl := a9 (hasN_o h2 h3 h4 h5 h6)
    obtain rfl := a13 q3 n4
    obtain rfl := a14 n4
    obtain rfl := a15 (hasA_o h2 h3 h4 h5 h6)
    exact true_o kind src dst tnum node h2 h3 h4 h5 h6 (decide_eq_false (by omega)) (decide_eq_false (by omega)) b1 b2 b3 g1 w

end Go.Proofs.Ytolcmjoapnldiaa.Msg
