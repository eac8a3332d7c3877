/- What Encode, Decode and the law's own bytes answer, as plain functions: a right message's bytes, and the message that bytes are. No conditions beyond the numbers' and texts' bounds. -/
import Derived.Test.YtolcmjoapnldiaaM4
import Derived.Test.YtolcmjoapnldiaaM7
import Derived.Test.YtolcmjoapnldiaaMsgRt
namespace Go.Proofs.Ytolcmjoapnldiaa.Q
open Go Go.RowKit Go.Proofs.YtolcmjoapnldiaaW.PrintWords Go.Proofs.Ytolcmjoapnldiaa.Leb Go.Proofs.Ytolcmjoapnldiaa.Str
set_option linter.unusedSimpArgs false
set_option linter.unusedVariables false

/-- What the printed Put tells: with rounds enough it lays leb behind what was there. -/
theorem put_l0 : ∀ (n : Nat) (k : Nat) (l : List Int), (leb n).length ≤ k → l.length + (leb n).length ≤ 140737488355328 → num_Put.l0 k l (n : Int) = some (l ++ leb n) := by
  intro n
  induction n using Nat.strongRecOn with
  | _ n ih =>
    intro k l hk hl
    have hp := leb_pos n
    obtain ⟨k, rfl⟩ : ∃ m, k = m + 1 := ⟨k - 1, by omega⟩
    by_cases c : n < 128
    · simp only [num_Put.l0]
      rw [if_neg (by omega)]
      rw [leb_lt c] at hl ⊢
      simp only [List.length_cons, List.length_nil] at hl
      rw [if_pos (by omega), Int.emod_eq_of_lt (by omega) (by omega)]
    · rw [leb_ge (by omega)] at hl hk ⊢
      simp only [List.length_cons] at hl hk
      simp only [num_Put.l0]
      rw [if_pos (by omega), if_pos (by omega), or128_leb, show ((n : Nat) : Int) / 128 = ((n / 128 : Nat) : Int) by omega]
      rw [ih (n / 128) (by omega) k (l ++ [((n % 128 + 128 : Nat) : Int)]) (by omega) (by simp; omega)]
      simp
theorem put_l (n k : Nat) (l : List Int) (h : n < 18446744073709551616) (hk : 10 ≤ k) (hl : l.length ≤ 140737488355000) : num_Put.f k l (n : Int) = some (l ++ leb n) := by
  have := leb_ten h
  unfold num_Put.f
  exact put_l0 n k l (by omega) (by omega)

theorem text_l (k : Nat) (l : List Int) (s : ByteArray) (hs : s.size < 140737488350000) (hk : 10 ≤ k) (hl : l.length + s.size ≤ 140737488355000) : num_Text.f k l s = some (l ++ (leb s.size ++ bytesOf s)) := by
  have h10 := leb_ten (n := s.size) (by omega)
  unfold num_Text.f
  have w : IntKind.u64.wrap ((s.size : Int)) = ((s.size : Nat) : Int) := by simp [IntKind.wrap, IntKind.bits, IntKind.signed]; omega
  rw [w, put_l s.size k l (by omega) hk (by omega)]
  simp only [Option.bind_some]
  rw [if_pos (by simp; omega), List.append_assoc]

theorem wrap_nat (n : Nat) (h : n < 18446744073709551616) : IntKind.u64.wrap (n : Int) = (n : Int) := by
  simp [IntKind.wrap, IntKind.bits, IntKind.signed]; omega

theorem wrap64_nat (n : Nat) (h : n < 9223372036854775808) : wrap64 (n : Int) = (n : Int) := by
  simp [wrap64]; omega

theorem has_f (k : Int) : msg_has.f k = some (hasL k, hasN k, hasO k, hasA k) := by
  rcases kinds k with rfl | rfl | rfl | rfl | rfl | ⟨h2, h3, h4, h5, h6⟩
  · rfl
  · rfl
  · rfl
  · rfl
  · rfl
  · have n2 : ¬ k = 2 := by simpa using h2
    have n3 : ¬ k = 3 := by simpa using h3
    have n4 : ¬ k = 4 := by simpa using h4
    have n5 : ¬ k = 5 := by simpa using h5
    have n6 : ¬ k = 6 := by simpa using h6
    simp [msg_has.f, hasL, hasN, hasO, hasA, n2, n3, n4, n5, n6]


/-- The parameters of a message lie in their kinds' bounds. -/
structure Wf (m : MsgV) : Prop where
  tnum : 0 ≤ m.tnum ∧ m.tnum < 18446744073709551616
  life : 0 ≤ m.life ∧ m.life < 18446744073709551616
  key : m.key.size ≤ 9223372036854775807
  val : m.val.size ≤ 9223372036854775807

theorem tid_l (k : Nat) (l : List Int) (a b : Nat) (ha : a < 18446744073709551616) (hb : b < 18446744073709551616) (hk : 10 ≤ k) (hl : l.length ≤ 140737488350000) : num_Tid.f k l (a : Int) (b : Int) = some (l ++ (leb a ++ leb b)) := by
  have h10 := leb_ten (n := a) (by omega)
  unfold num_Tid.f
  rw [put_l a k l (by omega) hk (by omega)]
  simp only [Option.bind_some]
  rw [wrap_nat b hb, put_l b k _ (by omega) hk (by simp; omega)]
  simp

theorem right_f (m : MsgV) (h : Wf m) : msg_Msg_Right.f m.kind m.src m.dst m.tnum m.node m.life m.num m.op m.key m.val m.has m.code = some (rightM m) := by
  unfold msg_Msg_Right.f
  rw [if_pos ⟨by have := h.key; omega, by have := h.val; omega⟩]

theorem enc_bad (k : Nat) (m : MsgV) (hw : Wf m) (h : rightM m = false) : msg_Encode.f k m.kind m.src m.dst m.tnum m.node m.life m.num m.op m.key m.val m.has m.code = some ([], 1) := by
  unfold msg_Encode.f
  rw [right_f m hw, h]
  rfl

theorem enc_f (k : Nat) (m : MsgV) (hw : Wf m) (h : rightM m = true) : msg_Encode.f (k + 14) m.kind m.src m.dst m.tnum m.node m.life m.num m.op m.key m.val m.has m.code = some (encM m, 0) := by
  have ha := rt_of m h
  have hR := right_f m hw
  rw [h] at hR
  obtain ⟨kind, src, dst, tnum, node, life, num, op, key, val, has, code⟩ := m
  obtain ⟨a1, a2, a3, a4, a5, a6, a7, a8, a9, a10, a11, a12, a13, a14, a15, a16⟩ := ha
  obtain ⟨w1, w2, w3, w4⟩ := hw
  dsimp only at *
  obtain ⟨src, rfl⟩ := Int.eq_ofNat_of_zero_le a2.1
  obtain ⟨dst, rfl⟩ := Int.eq_ofNat_of_zero_le a3.1
  obtain ⟨node, rfl⟩ := Int.eq_ofNat_of_zero_le a4.1
  obtain ⟨tnum, rfl⟩ := Int.eq_ofNat_of_zero_le w1.1
  obtain ⟨life, rfl⟩ := Int.eq_ofNat_of_zero_le w2.1
  obtain ⟨num, rfl⟩ := Int.eq_ofNat_of_zero_le a7.1
  obtain ⟨code, rfl⟩ := Int.eq_ofNat_of_zero_le a16.1
  have l1 := leb_ten (n := src) (by omega)
  have l2 := leb_ten (n := dst) (by omega)
  have l3 := leb_ten (n := node) (by omega)
  have l4 := leb_ten (n := tnum) (by omega)
  have l5 := leb_ten (n := life) (by omega)
  have l6 := leb_ten (n := num) (by omega)
  have l7 := leb_ten (n := code) (by omega)
  have l8 := leb_ten (n := kind.toNat) (by omega)
  have l9 := leb_ten (n := key.size) (by omega)
  have l10 := leb_ten (n := val.size) (by omega)
  have lk := length_bytes key
  have lv := length_bytes val
  unfold msg_Encode.f
  rw [hR, Option.bind_some, if_pos rfl, has_f, Option.bind_some]
  have hkk : ((kind.toNat : Nat) : Int) = kind := by omega
  rw [← hkk, wrap_nat _ (by omega), put_l _ _ _ (by omega) (by omega) (by simp)]
  simp only [Option.bind_some]
  rw [wrap_nat src (by omega), put_l src _ _ (by omega) (by omega) (by simp; omega)]
  simp only [Option.bind_some]
  rw [wrap_nat dst (by omega), put_l dst _ _ (by omega) (by omega) (by simp; omega)]
  simp only [Option.bind_some]
  rw [tid_l _ _ tnum node (by omega) (by omega) (by omega) (by simp; omega)]
  simp only [Option.bind_some]
  rw [hkk]
  obtain ⟨kl, hkl⟩ : ∃ kl, kl = leb kind.toNat := ⟨_, rfl⟩
  rw [← hkl] at l8 ⊢
  rcases kinds kind with rfl | rfl | rfl | rfl | rfl | ⟨h2, h3, h4, h5, h6⟩
  · obtain ⟨rfl, rfl⟩ := a11 rfl
    rw [if_pos (show hasL 2 = true from rfl), put_l life _ _ (by omega) (by omega) (by simp; omega)]
    simp only [Option.bind_some, msg_Encode.j0, msg_Encode.j1, msg_Encode.j2, msg_Encode.j3, show hasN 2 = false from rfl, show hasO 2 = false from rfl, show hasA 2 = false from rfl, Bool.false_eq_true, if_false, if_neg (show ¬ (2 : Int) = 4 by decide)]
    simp [encM, restM, hkl]
  · obtain ⟨o1, o2, o3⟩ := a10 rfl
    obtain ⟨op, rfl⟩ := Int.eq_ofNat_of_zero_le (show 0 ≤ op by omega)
    have l11 := leb_ten (n := op) (by omega)
    rw [if_pos (show hasL 3 = true from rfl), put_l life _ _ (by omega) (by omega) (by simp; omega)]
    simp only [Option.bind_some, msg_Encode.j0, show hasN 3 = true from rfl, if_true]
    rw [wrap_nat num (by omega), put_l num _ _ (by omega) (by omega) (by simp; omega)]
    simp only [Option.bind_some, msg_Encode.j1, show hasO 3 = true from rfl, if_true]
    rw [wrap_nat op (by omega), put_l op _ _ (by omega) (by omega) (by simp; omega)]
    simp only [Option.bind_some]
    rw [text_l _ _ key (by omega) (by omega) (by simp; omega)]
    simp only [Option.bind_some]
    rw [text_l _ _ val (by omega) (by omega) (by simp; omega)]
    simp only [Option.bind_some, msg_Encode.j2, msg_Encode.j3, show hasA 3 = false from rfl, Bool.false_eq_true, if_false, if_neg (show ¬ (3 : Int) = 4 by decide)]
    simp [encM, restM, hkl, textL]
  · obtain ⟨rfl, rfl⟩ := a11 rfl
    have hb : msg_bit.f has = some (((if has = true then 1 else 0 : Nat) : Int)) := by cases has <;> rfl
    have l11 := leb_ten (n := (if has = true then 1 else 0)) (by split <;> omega)
    rw [if_neg (show ¬ hasL 4 = true by decide)]
    simp only [Option.bind_some, msg_Encode.j0, show hasN 4 = true from rfl, if_true]
    rw [wrap_nat num (by omega), put_l num _ _ (by omega) (by omega) (by simp; omega)]
    simp only [Option.bind_some, msg_Encode.j1, msg_Encode.j2, show hasO 4 = false from rfl, show hasA 4 = true from rfl, Bool.false_eq_true, if_false, if_true]
    rw [wrap_nat code (by omega), put_l code _ _ (by omega) (by omega) (by simp; omega)]
    simp only [Option.bind_some, msg_Encode.j3, if_true, hb]
    rw [put_l _ _ _ (by split <;> omega) (by omega) (by simp; omega)]
    simp only [Option.bind_some]
    rw [text_l _ _ val (by omega) (by omega) (by simp; omega)]
    simp [encM, restM, hkl, textL]
  · obtain ⟨rfl, rfl⟩ := a11 rfl
    rw [if_pos (show hasL 5 = true from rfl), put_l life _ _ (by omega) (by omega) (by simp; omega)]
    simp only [Option.bind_some, msg_Encode.j0, show hasN 5 = true from rfl, if_true]
    rw [wrap_nat num (by omega), put_l num _ _ (by omega) (by omega) (by simp; omega)]
    simp only [Option.bind_some, msg_Encode.j1, msg_Encode.j2, msg_Encode.j3, show hasO 5 = false from rfl, show hasA 5 = false from rfl, Bool.false_eq_true, if_false, if_neg (show ¬ (5 : Int) = 4 by decide)]
    simp [encM, restM, hkl]
  · obtain ⟨rfl, rfl⟩ := a11 rfl
    rw [if_neg (show ¬ hasL 6 = true by decide)]
    simp only [Option.bind_some, msg_Encode.j0, msg_Encode.j1, msg_Encode.j2, show hasN 6 = false from rfl, show hasO 6 = false from rfl, show hasA 6 = true from rfl, Bool.false_eq_true, if_false, if_true]
    rw [wrap_nat code (by omega), put_l code _ _ (by omega) (by omega) (by simp; omega)]
    simp only [Option.bind_some, msg_Encode.j3, if_neg (show ¬ (6 : Int) = 4 by decide)]
    simp [encM, restM, hkl]
  · have n2 : ¬ kind = 2 := by simpa using h2
    have n3 : ¬ kind = 3 := by simpa using h3
    have n4 : ¬ kind = 4 := by simpa using h4
    have n5 : ¬ kind = 5 := by simpa using h5
    have n6 : ¬ kind = 6 := by simpa using h6
    simp only [msg_Encode.j0, msg_Encode.j1, msg_Encode.j2, msg_Encode.j3, hasL_o h2 h3 h4 h5 h6, hasN_o h2 h3 h4 h5 h6, hasO_o h2 h3 h4 h5 h6, hasA_o h2 h3 h4 h5 h6, Bool.false_eq_true, if_false, if_neg n4]
    simp [encM, restM, hkl, n2, n3, n4, n5, n6]

end Go.Proofs.Ytolcmjoapnldiaa.Q
