/- What Decode answers, as a plain function: the message of which the bytes are, or none. No conditions beyond the bytes being bytes. -/
import Derived.Test.YtolcmjoapnldiaaM6
import Derived.Test.YtolcmjoapnldiaaMsgEnc
namespace Go.Proofs.Ytolcmjoapnldiaa.Q
open Go Go.RowKit Go.Proofs.YtolcmjoapnldiaaW.PrintWords Go.Proofs.Ytolcmjoapnldiaa.Leb Go.Proofs.Ytolcmjoapnldiaa.Str
set_option linter.unusedSimpArgs false
set_option linter.unusedVariables false

theorem bytB_of {l : List Int} (h : Byt l) : bytB l = true := by
  unfold bytB
  rw [List.all_eq_true]
  intro x hx
  have := h x hx
  simp
  omega

theorem text24 (s : RdS) : num_Reader_Text.f s 24 = some (rtext s 24) := by unfold num_Reader_Text.f; rw [if_pos (by decide)]
theorem text48 (s : RdS) : num_Reader_Text.f s 48 = some (rtext s 48) := by unfold num_Reader_Text.f; rw [if_pos (by decide)]

theorem rtext_fwd (a : ByteArray) (t : List Int) {most : Int} (h : (a.size : Int) ≤ most) (h2 : most ≤ 9223372036854775807) : num_Reader_Text.f ⟨textL a t, 0⟩ most = some (a, ⟨t, 0⟩) := by
  have hp : 0 ≤ (a.size : Int) := by omega
  unfold num_Reader_Text.f rtext textL
  rw [if_pos ⟨by omega, h2⟩]
  by_cases hm : 0 < most
  · rw [if_pos hm, rnum_fwd a.size _ (by omega) h]
    simp only [if_true]
    rw [if_neg (by simp [length_bytes]; omega)]
    rw [show ((a.size : Nat) : Int).toNat = (bytesOf a).length by rw [length_bytes]; omega, List.take_left, List.drop_left, str_bytesOf]
  · have hz : a.size = 0 := by omega
    rw [if_neg hm, rnum_fwd a.size _ (by omega) (by omega)]
    simp only [if_true]
    rw [if_neg (by simp [length_bytes]; omega)]
    rw [show ((a.size : Nat) : Int).toNat = (bytesOf a).length by rw [length_bytes]; omega, List.take_left, List.drop_left, str_bytesOf]

theorem rtext_back {s : RdS} {most : Int} (h0 : 0 ≤ most) (hb : Byt s.b) (h : (rtext s most).2.e = 0) : ∃ a : ByteArray, s = ⟨textL a (rtext s most).2.b, 0⟩ ∧ (rtext s most).1 = a ∧ (a.size : Int) ≤ most := by
  have hmm : (if 0 < most then most else 0) = most := by split <;> omega
  unfold rtext at h ⊢
  simp only [hmm] at h ⊢
  by_cases he : (rnum s most).2.e = 0
  · rw [if_pos he] at h ⊢
    obtain ⟨n, h1, h2, h3⟩ := rnum_back hb he
    by_cases hl : ((rnum s most).2.b.length : Int) < (rnum s most).1
    · rw [if_pos hl] at h
      exact absurd h (by simp)
    · rw [if_neg hl]
      rw [h2] at hl ⊢
      have hby : Byt (rnum s most).2.b := by rw [h1] at hb; exact hb.right
      have hsz : (strOfNums (List.take n (rnum s most).2.b)).size = n := by rw [size_str, List.length_take]; omega
      refine ⟨strOfNums ((rnum s most).2.b.take n), ?_, rfl, by rw [hsz]; omega⟩
      unfold textL
      rw [hsz, back (hby.take _)]
      conv => lhs; rw [h1]
      congr 2
      exact (List.take_append_drop _ _).symm
  · rw [if_neg he] at h
    exact absurd h he

theorem rtext_e {s : RdS} {most : Int} (h : s.e ≠ 0) : (rtext s most).2.e ≠ 0 := by
  unfold rtext
  rw [rnum_e h]
  simp only
  rw [if_neg h]
  exact h

theorem rtext_e' {s : RdS} {most : Int} (h : (rtext s most).2.e = 0) : s.e = 0 := by
  by_cases c : s.e = 0
  · exact c
  · exact absurd h (rtext_e c)

theorem rnum_e' {s : RdS} {most : Int} (h : (rnum s most).2.e = 0) : s.e = 0 := by
  by_cases c : s.e = 0
  · exact c
  · rw [rnum_e c] at h
    exact absurd h c

theorem rnum_by {s : RdS} {most : Int} (hb : Byt s.b) (h : (rnum s most).2.e = 0) : Byt (rnum s most).2.b := by
  obtain ⟨n, h1, _⟩ := rnum_back hb h
  rw [h1] at hb
  exact hb.right

theorem rgo_le {most : Int} (h0 : 0 ≤ most) : ∀ (l : List Int) (j : Nat) (acc : Int), (rgo most j acc l).1 ≤ most
  | [], j, acc => by rw [rgo_short]; exact h0
  | x :: t, j, acc => by
    by_cases hbad : (j = 9 ∧ 1 < x) ∨ (0 < j ∧ x = 0)
    · rw [rgo_bad hbad]; exact h0
    · by_cases hc : 128 ≤ x
      · rw [rgo_more hbad hc]
        exact rgo_le h0 t _ _
      · by_cases hm : most < acc + x % 128 * 128 ^ j
        · rw [rgo_many hbad (by omega) hm]; exact h0
        · rw [rgo_done hbad (by omega) hm]
          simp only
          omega

theorem rnum_le {s : RdS} {m : Int} (h0 : 0 ≤ m) : (rnum s m).1 ≤ m := by
  unfold rnum
  split
  · exact rgo_le h0 _ _ _
  · exact h0

theorem rtext_size {s : RdS} {most : Int} (h0 : 0 ≤ most) : ((rtext s most).1.size : Int) ≤ most := by
  have hmm : (if 0 < most then most else 0) = most := by split <;> omega
  have := rnum_le (s := s) h0
  unfold rtext
  simp only [hmm]
  split
  · split
    · exact h0
    · rw [size_str, List.length_take]
      omega
  · exact h0

theorem right_f' (kind src dst tnum node life num op : Int) (key val : ByteArray) (has : Bool) (code : Int) (hk : key.size ≤ 9223372036854775807) (hv : val.size ≤ 9223372036854775807) :
    msg_Msg_Right.f kind src dst tnum node life num op key val has code = some (rightM ⟨kind, src, dst, tnum, node, life, num, op, key, val, has, code⟩) := by
  unfold msg_Msg_Right.f
  rw [if_pos ⟨hk, hv⟩]

def zeroM : MsgV := ⟨0, 0, 0, 0, 0, 0, 0, 0, ⟨#[]⟩, ⟨#[]⟩, false, 0⟩

def outM (m : MsgV) (e : Int) := some (m.kind, m.src, m.dst, m.tnum, m.node, m.life, m.num, m.op, m.key, m.val, m.has, m.code, e)

/-- What Decode tells of bytes. -/
def Dec (l : List Int) (x : Option (Int × Int × Int × Int × Int × Int × Int × Int × ByteArray × ByteArray × Bool × Int × Int)) : Prop :=
  ∃ m e, x = outM m e ∧ ((e = 0 ∧ rightM m = true ∧ Wf m ∧ encM m = l) ∨ (e = 11 ∧ m = zeroM))

theorem fin (k : Nat) (l : List Int) (s : RdS) (kind src dst tnum node life num op : Int) (key val : ByteArray) (has : Bool) (code : Int) (hk : (key.size : Int) ≤ 1000) (hv : (val.size : Int) ≤ 1000)
    (h : s.e = 0 → s.b = [] → Wf ⟨kind, src, dst, tnum, node, life, num, op, key, val, has, code⟩ ∧ encM ⟨kind, src, dst, tnum, node, life, num, op, key, val, has, code⟩ = l) :
    Dec l (msg_Decode.j4 (k + 1) s kind src dst tnum node life num op key val has code) := by
  simp only [msg_Decode.j4, num_Reader_End.f, Option.bind_some]
  by_cases he : s.e = 0
  · by_cases hb : s.b = []
    · rw [if_pos he, if_pos hb, if_pos rfl, right_f' _ _ _ _ _ _ _ _ _ _ _ _ (by omega) (by omega), Option.bind_some]
      obtain ⟨h1, h2⟩ := h he hb
      by_cases hr : rightM ⟨kind, src, dst, tnum, node, life, num, op, key, val, has, code⟩ = true
      · rw [if_pos hr]
        exact ⟨_, 0, rfl, .inl ⟨rfl, hr, h1, h2⟩⟩
      · rw [if_neg hr]
        exact ⟨zeroM, 11, rfl, .inr ⟨rfl, rfl⟩⟩
    · rw [if_pos he, if_neg hb, if_neg (by decide)]
      exact ⟨zeroM, 11, rfl, .inr ⟨rfl, rfl⟩⟩
  · rw [if_neg he, if_neg he]
    exact ⟨zeroM, 11, rfl, .inr ⟨rfl, rfl⟩⟩

theorem wrap64_le {n : Nat} {most : Int} (h : (n : Int) ≤ most) (h2 : most < 9223372036854775808) : wrap64 (n : Int) = (n : Int) := wrap64_nat n (by omega)

/-- A transaction that is read. -/
theorem tid_back {s : RdS} (hb : s.e = 0 → Byt s.b) : ∃ tn nd s5, num_Reader_Tid.f s = some (tn, nd, s5) ∧ (s5.e = 0 → ∃ a b : Nat, s = ⟨leb a ++ (leb b ++ s5.b), 0⟩ ∧ tn = a ∧ nd = b ∧ a ≤ 1099511627776 ∧ b ≤ 63) := by
  unfold num_Reader_Tid.f num_Reader_Num.f num_Reader_Err.f
  simp only [Option.bind_some]
  by_cases he : (rnum (rnum s 1099511627776).2 63).2.e = 0
  · rw [if_pos he]
    refine ⟨_, _, _, rfl, fun _ => ?_⟩
    have h1 := rnum_e' he
    have hy := hb (rnum_e' h1)
    obtain ⟨a, e1, e2, e3⟩ := rnum_back hy h1
    obtain ⟨b, e4, e5, e6⟩ := rnum_back (rnum_by hy h1) he
    refine ⟨a, b, ?_, e2, ?_, by omega, by omega⟩
    · have := congrArg RdS.b e4
      dsimp only at this
      rw [← this, ← e1]
    · rw [e5, wrap64_le e6 (by decide)]
  · rw [if_neg he]
    exact ⟨_, _, _, rfl, fun h => absurd h he⟩

theorem dec_back (k : Nat) (l : List Int) (hy : Byt l) : Dec l (msg_Decode.f (k + 5) l) := by
  unfold msg_Decode.f num_Read.f
  rw [if_pos (bytB_of hy), Option.bind_some]
  unfold num_Reader_Num.f
  simp only [Option.bind_some]
  obtain ⟨p1, hp1⟩ : ∃ p, p = rnum ⟨l, 0⟩ 10 := ⟨_, rfl⟩
  obtain ⟨p2, hp2⟩ : ∃ p, p = rnum p1.2 63 := ⟨_, rfl⟩
  obtain ⟨p3, hp3⟩ : ∃ p, p = rnum p2.2 63 := ⟨_, rfl⟩
  rw [← hp1, ← hp2, ← hp3]
  have y1 : p1.2.e = 0 → Byt p1.2.b := fun h => by rw [hp1] at h ⊢; exact rnum_by hy h
  have y2 : p2.2.e = 0 → Byt p2.2.b := fun h => by rw [hp2] at h ⊢; exact rnum_by (y1 (rnum_e' h)) h
  have y3 : p3.2.e = 0 → Byt p3.2.b := fun h => by rw [hp3] at h ⊢; exact rnum_by (y2 (rnum_e' h)) h
  obtain ⟨tn, nd, s5, hT, hc⟩ := tid_back y3
  rw [hT, Option.bind_some, has_f, Option.bind_some]
  have hC : s5.e = 0 → ∃ n1 n2 n3 a b : Nat, l = leb n1 ++ (leb n2 ++ (leb n3 ++ (leb a ++ (leb b ++ s5.b)))) ∧ wrap64 p1.1 = n1 ∧ wrap64 p2.1 = n2 ∧ wrap64 p3.1 = n3 ∧ tn = a ∧ nd = b ∧ a ≤ 1099511627776 ∧ Byt s5.b := by
    intro h5
    obtain ⟨a, b, h1, h2, h3, h4, h5⟩ := hc h5
    have e3 : p3.2.e = 0 := by rw [h1]
    have e2 : p2.2.e = 0 := by rw [hp3] at e3; exact rnum_e' e3
    have e1 : p1.2.e = 0 := by rw [hp2] at e2; exact rnum_e' e2
    have hy3 := y3 e3
    have hy2 := y2 e2
    have hy1 := y1 e1
    rw [hp1] at e1
    obtain ⟨n1, q1, q2, q3⟩ := rnum_back hy e1
    rw [hp2] at e2
    obtain ⟨n2, q4, q5, q6⟩ := rnum_back hy1 e2
    rw [hp3] at e3
    obtain ⟨n3, q7, q8, q9⟩ := rnum_back hy2 e3
    rw [← hp1] at q1 q2
    rw [← hp2] at q4 q5
    rw [← hp3] at q7 q8
    refine ⟨n1, n2, n3, a, b, ?_, by rw [q2]; exact wrap64_le q3 (by decide), by rw [q5]; exact wrap64_le q6 (by decide), by rw [q8]; exact wrap64_le q9 (by decide), h2, h3, h4, ?_⟩
    · have := congrArg RdS.b q1
      dsimp only at this
      rw [this, q4]
      dsimp only
      rw [q7]
      dsimp only
      rw [h1]
    · rw [h1] at hy3
      exact hy3.right.right
  clear hc hT hp1 hp2 hp3 y1 y2 y3
  generalize wrap64 p1.1 = K at *
  generalize wrap64 p2.1 = x2 at *
  generalize wrap64 p3.1 = x3 at *
  clear p1 p2 p3
  rcases kinds K with rfl | rfl | rfl | rfl | rfl | ⟨h2, h3, h4, h5, h6⟩
  · simp only [show hasL 2 = true from rfl, show hasN 2 = false from rfl, show hasO 2 = false from rfl, show hasA 2 = false from rfl, if_true, msg_Decode.j0, msg_Decode.j1, msg_Decode.j2, msg_Decode.j3, Bool.false_eq_true, if_false, if_neg (show ¬ (2 : Int) = 4 by decide)]
    refine fin _ l _ _ _ _ _ _ _ _ _ _ _ _ _ (by decide) (by decide) ?_
    intro he hb
    obtain ⟨n1, n2, n3, a, b, hl, rfl', rfl, rfl, rfl, rfl, ha, hy5⟩ := hC (rnum_e' he)
    obtain ⟨n6, g1, g2, g3⟩ := rnum_back hy5 he
    obtain rfl : n1 = 2 := by omega
    rw [g2]
    refine ⟨⟨by dsimp only; omega, by dsimp only; omega, by dsimp only; decide, by dsimp only; decide⟩, ?_⟩
    rw [hl, g1, hb]
    simp [encM, restM]
  · simp only [show hasL 3 = true from rfl, show hasN 3 = true from rfl, show hasO 3 = true from rfl, show hasA 3 = false from rfl, if_true, msg_Decode.j0, msg_Decode.j1, msg_Decode.j2, msg_Decode.j3, Bool.false_eq_true, if_false, num_Reader_Num.f, text24, text48, Option.bind_some, if_neg (show ¬ (3 : Int) = 4 by decide)]
    refine fin _ l _ _ _ _ _ _ _ _ _ _ _ _ _ (Int.le_trans (rtext_size (by decide)) (by decide)) (Int.le_trans (rtext_size (by decide)) (by decide)) ?_
    intro he hb
    obtain ⟨p6, h6⟩ : ∃ p, p = rnum s5 1099511627776 := ⟨_, rfl⟩
    rw [← h6] at he hb ⊢
    obtain ⟨p7, h7⟩ : ∃ p, p = rnum p6.2 1048576 := ⟨_, rfl⟩
    rw [← h7] at he hb ⊢
    obtain ⟨p8, h8⟩ : ∃ p, p = rnum p7.2 3 := ⟨_, rfl⟩
    rw [← h8] at he hb ⊢
    obtain ⟨p9, h9⟩ : ∃ p, p = rtext p8.2 24 := ⟨_, rfl⟩
    rw [← h9] at he hb ⊢
    obtain ⟨p10, h10⟩ : ∃ p, p = rtext p9.2 48 := ⟨_, rfl⟩
    rw [← h10] at he hb ⊢
    have i9 : p9.2.e = 0 := rtext_e' (by rw [← h10]; exact he)
    have i8 : p8.2.e = 0 := rtext_e' (by rw [← h9]; exact i9)
    have i7 : p7.2.e = 0 := rnum_e' (by rw [← h8]; exact i8)
    have i6 : p6.2.e = 0 := rnum_e' (by rw [← h7]; exact i7)
    have i5 : s5.e = 0 := rnum_e' (by rw [← h6]; exact i6)
    obtain ⟨n1, n2, n3, a, b, hl, e1, rfl, rfl, rfl, rfl, ha, hy5⟩ := hC i5
    obtain ⟨n6, g1, g2, g3⟩ := rnum_back hy5 (by rw [← h6]; exact i6)
    rw [← h6] at g1 g2
    have hy6 : Byt p6.2.b := by rw [g1] at hy5; exact hy5.right
    obtain ⟨n7, g4, g5, g6⟩ := rnum_back hy6 (by rw [← h7]; exact i7)
    rw [← h7] at g4 g5
    have hy7 : Byt p7.2.b := by rw [g4] at hy6; exact hy6.right
    obtain ⟨n8, g7, g8, g9⟩ := rnum_back hy7 (by rw [← h8]; exact i8)
    rw [← h8] at g7 g8
    have hy8 : Byt p8.2.b := by rw [g7] at hy7; exact hy7.right
    obtain ⟨x9, g10, g11, g12⟩ := rtext_back (most := 24) (by decide) hy8 (by rw [← h9]; exact i9)
    rw [← h9] at g10 g11
    have hy9 : Byt p9.2.b := by rw [g10] at hy8; exact hy8.right.right
    obtain ⟨x10, g13, g14, g15⟩ := rtext_back (most := 48) (by decide) hy9 (by rw [← h10]; exact he)
    rw [← h10] at g13 g14
    obtain rfl : n1 = 3 := by omega
    rw [g2, g5, g8, g11, g14, wrap64_le g6 (by decide), wrap64_le g9 (by decide)]
    refine ⟨⟨by dsimp only; omega, by dsimp only; omega, by dsimp only; omega, by dsimp only; omega⟩, ?_⟩
    rw [hl, g1, g4, g7, g10, g13, hb]
    simp [encM, restM]
  · simp only [show hasL 4 = false from rfl, show hasN 4 = true from rfl, show hasO 4 = false from rfl, show hasA 4 = true from rfl, if_true, msg_Decode.j0, msg_Decode.j1, msg_Decode.j2, msg_Decode.j3, Bool.false_eq_true, if_false, num_Reader_Num.f, text24, text48, Option.bind_some]
    refine fin _ l _ _ _ _ _ _ _ _ _ _ _ _ _ (by decide) (Int.le_trans (rtext_size (by decide)) (by decide)) ?_
    intro he hb
    obtain ⟨p6, h6⟩ : ∃ p, p = rnum s5 1048576 := ⟨_, rfl⟩
    rw [← h6] at he hb ⊢
    obtain ⟨p7, h7⟩ : ∃ p, p = rnum p6.2 17 := ⟨_, rfl⟩
    rw [← h7] at he hb ⊢
    obtain ⟨p8, h8⟩ : ∃ p, p = rnum p7.2 1 := ⟨_, rfl⟩
    rw [← h8] at he hb ⊢
    obtain ⟨p9, h9⟩ : ∃ p, p = rtext p8.2 48 := ⟨_, rfl⟩
    rw [← h9] at he hb ⊢
    have i8 : p8.2.e = 0 := rtext_e' (by rw [← h9]; exact he)
    have i7 : p7.2.e = 0 := rnum_e' (by rw [← h8]; exact i8)
    have i6 : p6.2.e = 0 := rnum_e' (by rw [← h7]; exact i7)
    have i5 : s5.e = 0 := rnum_e' (by rw [← h6]; exact i6)
    obtain ⟨n1, n2, n3, a, b, hl, e1, rfl, rfl, rfl, rfl, ha, hy5⟩ := hC i5
    obtain ⟨n6, g1, g2, g3⟩ := rnum_back hy5 (by rw [← h6]; exact i6)
    rw [← h6] at g1 g2
    have hy6 : Byt p6.2.b := by rw [g1] at hy5; exact hy5.right
    obtain ⟨n7, g4, g5, g6⟩ := rnum_back hy6 (by rw [← h7]; exact i7)
    rw [← h7] at g4 g5
    have hy7 : Byt p7.2.b := by rw [g4] at hy6; exact hy6.right
    obtain ⟨n8, g7, g8, g9⟩ := rnum_back hy7 (by rw [← h8]; exact i8)
    rw [← h8] at g7 g8
    have hy8 : Byt p8.2.b := by rw [g7] at hy7; exact hy7.right
    obtain ⟨x9, g10, g11, g12⟩ := rtext_back (most := 48) (by decide) hy8 (by rw [← h9]; exact he)
    rw [← h9] at g10 g11
    obtain rfl : n1 = 4 := by omega
    rw [g2, g5, g8, g11, wrap64_le g3 (by decide), wrap64_le g6 (by decide)]
    refine ⟨⟨by dsimp only; omega, by dsimp only; omega, by dsimp only; decide, by dsimp only; omega⟩, ?_⟩
    rw [hl, g1, g4, g7, g10, hb]
    have hn : n8 = 0 ∨ n8 = 1 := by omega
    rcases hn with rfl | rfl
    · simp [encM, restM]
    · simp [encM, restM]
  · simp only [show hasL 5 = true from rfl, show hasN 5 = true from rfl, show hasO 5 = false from rfl, show hasA 5 = false from rfl, if_true, msg_Decode.j0, msg_Decode.j1, msg_Decode.j2, msg_Decode.j3, Bool.false_eq_true, if_false, num_Reader_Num.f, text24, text48, Option.bind_some, if_neg (show ¬ (5 : Int) = 4 by decide)]
    refine fin _ l _ _ _ _ _ _ _ _ _ _ _ _ _ (by decide) (by decide) ?_
    intro he hb
    obtain ⟨p6, h6⟩ : ∃ p, p = rnum s5 1099511627776 := ⟨_, rfl⟩
    rw [← h6] at he hb ⊢
    obtain ⟨p7, h7⟩ : ∃ p, p = rnum p6.2 1048576 := ⟨_, rfl⟩
    rw [← h7] at he hb ⊢
    have i6 : p6.2.e = 0 := rnum_e' (by rw [← h7]; exact he)
    have i5 : s5.e = 0 := rnum_e' (by rw [← h6]; exact i6)
    obtain ⟨n1, n2, n3, a, b, hl, e1, rfl, rfl, rfl, rfl, ha, hy5⟩ := hC i5
    obtain ⟨n6, g1, g2, g3⟩ := rnum_back hy5 (by rw [← h6]; exact i6)
    rw [← h6] at g1 g2
    have hy6 : Byt p6.2.b := by rw [g1] at hy5; exact hy5.right
    obtain ⟨n7, g4, g5, g6⟩ := rnum_back hy6 (by rw [← h7]; exact he)
    rw [← h7] at g4 g5
    obtain rfl : n1 = 5 := by omega
    rw [g2, g5, wrap64_le g6 (by decide)]
    refine ⟨⟨by dsimp only; omega, by dsimp only; omega, by dsimp only; decide, by dsimp only; decide⟩, ?_⟩
    rw [hl, g1, g4, hb]
    simp [encM, restM]
  · simp only [show hasL 6 = false from rfl, show hasN 6 = false from rfl, show hasO 6 = false from rfl, show hasA 6 = true from rfl, if_true, msg_Decode.j0, msg_Decode.j1, msg_Decode.j2, msg_Decode.j3, Bool.false_eq_true, if_false, num_Reader_Num.f, text24, text48, Option.bind_some, if_neg (show ¬ (6 : Int) = 4 by decide)]
    refine fin _ l _ _ _ _ _ _ _ _ _ _ _ _ _ (by decide) (by decide) ?_
    intro he hb
    obtain ⟨n1, n2, n3, a, b, hl, e1, rfl, rfl, rfl, rfl, ha, hy5⟩ := hC (rnum_e' he)
    obtain ⟨n6, g1, g2, g3⟩ := rnum_back hy5 he
    obtain rfl : n1 = 6 := by omega
    rw [g2, wrap64_le g3 (by decide)]
    refine ⟨⟨by dsimp only; omega, by dsimp only; omega, by dsimp only; decide, by dsimp only; decide⟩, ?_⟩
    rw [hl, g1, hb]
    simp [encM, restM]
  · have n2 : ¬ K = 2 := by simpa using h2
    have n3 : ¬ K = 3 := by simpa using h3
    have n4 : ¬ K = 4 := by simpa using h4
    have n5 : ¬ K = 5 := by simpa using h5
    have n6 : ¬ K = 6 := by simpa using h6
    simp only [hasL_o h2 h3 h4 h5 h6, hasN_o h2 h3 h4 h5 h6, hasO_o h2 h3 h4 h5 h6, hasA_o h2 h3 h4 h5 h6, msg_Decode.j0, msg_Decode.j1, msg_Decode.j2, msg_Decode.j3, Bool.false_eq_true, if_false, if_neg n4]
    refine fin _ l _ _ _ _ _ _ _ _ _ _ _ _ _ (by decide) (by decide) ?_
    intro he hb
    obtain ⟨m1, m2, m3, a, b, hl, rfl, rfl, rfl, rfl, rfl, ha, hy5⟩ := hC he
    refine ⟨⟨by dsimp only; omega, by dsimp only; omega, by dsimp only; decide, by dsimp only; decide⟩, ?_⟩
    rw [hl, hb]
    simp [encM, restM, n2, n3, n4, n5, n6]

theorem j4_done (k : Nat) (m : MsgV) (h : rightM m = true) (hk : m.key.size ≤ 9223372036854775807) (hv : m.val.size ≤ 9223372036854775807) :
    msg_Decode.j4 (k + 1) ⟨[], 0⟩ m.kind m.src m.dst m.tnum m.node m.life m.num m.op m.key m.val m.has m.code = outM m 0 := by
  simp only [msg_Decode.j4, num_Reader_End.f, Option.bind_some, if_true]
  rw [right_f' _ _ _ _ _ _ _ _ _ _ _ _ hk hv, Option.bind_some, h]
  rfl

theorem dec_fwd (k : Nat) (m : MsgV) (hw : Wf m) (h : rightM m = true) : msg_Decode.f (k + 5) (encM m) = outM m 0 := by
  have ha := rt_of m h
  have hby := bytB_of (byt_enc m)
  obtain ⟨kind, src, dst, tnum, node, life, num, op, key, val, has, code⟩ := m
  obtain ⟨a1, a2, a3, a4, a5, a6, a7, a8, a9, a10, a11, a12, a13, a14, a15, a16⟩ := ha
  obtain ⟨w1, w2, w3, w4⟩ := hw
  dsimp only at *
  obtain ⟨kind, rfl⟩ := Int.eq_ofNat_of_zero_le (show 0 ≤ kind by omega)
  obtain ⟨src, rfl⟩ := Int.eq_ofNat_of_zero_le a2.1
  obtain ⟨dst, rfl⟩ := Int.eq_ofNat_of_zero_le a3.1
  obtain ⟨node, rfl⟩ := Int.eq_ofNat_of_zero_le a4.1
  obtain ⟨tnum, rfl⟩ := Int.eq_ofNat_of_zero_le w1.1
  obtain ⟨life, rfl⟩ := Int.eq_ofNat_of_zero_le w2.1
  obtain ⟨num, rfl⟩ := Int.eq_ofNat_of_zero_le a7.1
  obtain ⟨code, rfl⟩ := Int.eq_ofNat_of_zero_le a16.1
  unfold msg_Decode.f num_Read.f
  rw [if_pos hby, Option.bind_some]
  unfold encM num_Reader_Tid.f num_Reader_Num.f num_Reader_Err.f
  dsimp only
  simp only [Int.toNat_natCast, Option.bind_some]
  rw [rnum_fwd kind _ (by omega) (by omega)]
  dsimp only
  rw [rnum_fwd src _ (by omega) (by omega)]
  dsimp only
  rw [rnum_fwd dst _ (by omega) (by omega)]
  dsimp only
  rw [rnum_fwd tnum _ (by omega) (by omega)]
  dsimp only
  rw [rnum_fwd node _ (by omega) (by omega)]
  dsimp only
  rw [if_pos rfl, Option.bind_some, has_f, Option.bind_some, wrap64_nat kind (by omega), wrap64_nat src (by omega), wrap64_nat dst (by omega), wrap64_nat node (by omega)]
  rcases kinds (kind : Int) with hk | hk | hk | hk | hk | ⟨h2, h3, h4, h5, h6⟩
  · obtain rfl : kind = 2 := by omega
    obtain ⟨rfl, rfl⟩ := a11 rfl
    have := a9 rfl
    obtain rfl := a13 rfl (by decide)
    obtain rfl := a14 (by decide)
    have := a15 rfl
    obtain rfl : num = 0 := by omega
    obtain rfl : code = 0 := by omega
    have e : restM ⟨((2 : Nat) : Int), src, dst, tnum, node, life, ((0 : Nat) : Int), 0, ByteArray.empty, ByteArray.empty, false, ((0 : Nat) : Int)⟩ = leb life ++ [] := rfl
    simp only [show hasL ((2 : Nat) : Int) = true from rfl, show hasN ((2 : Nat) : Int) = false from rfl, show hasO ((2 : Nat) : Int) = false from rfl, show hasA ((2 : Nat) : Int) = false from rfl, e, msg_Decode.j0, msg_Decode.j1, msg_Decode.j2, msg_Decode.j3, Bool.false_eq_true, if_false, if_true, num_Reader_Num.f, Option.bind_some, Int.toNat_natCast, if_neg (show ¬ ((2 : Nat) : Int) = 4 by decide)]
    rw [rnum_fwd life _ (by omega) (by omega)]
    simp only [show hasL ((2 : Nat) : Int) = true from rfl, show hasN ((2 : Nat) : Int) = false from rfl, show hasO ((2 : Nat) : Int) = false from rfl, show hasA ((2 : Nat) : Int) = false from rfl, msg_Decode.j0, msg_Decode.j1, msg_Decode.j2, msg_Decode.j3, Bool.false_eq_true, if_false, if_true, num_Reader_Num.f, Option.bind_some, Int.toNat_natCast, if_neg (show ¬ ((2 : Nat) : Int) = 4 by decide)]
    exact j4_done k _ h w3 w4
  · obtain rfl : kind = 3 := by omega
    obtain ⟨o1, o2, o3⟩ := a10 rfl
    obtain ⟨op, rfl⟩ := Int.eq_ofNat_of_zero_le (show 0 ≤ op by omega)
    obtain rfl := a14 (by decide)
    have := a15 rfl
    obtain rfl : code = 0 := by omega
    have e : restM ⟨((3 : Nat) : Int), src, dst, tnum, node, life, num, op, key, val, false, ((0 : Nat) : Int)⟩ = leb life ++ (leb num ++ (leb op ++ textL key (textL val []))) := rfl
    simp only [show hasL ((3 : Nat) : Int) = true from rfl, show hasN ((3 : Nat) : Int) = true from rfl, show hasO ((3 : Nat) : Int) = true from rfl, show hasA ((3 : Nat) : Int) = false from rfl, e, msg_Decode.j0, msg_Decode.j1, msg_Decode.j2, msg_Decode.j3, Bool.false_eq_true, if_false, if_true, num_Reader_Num.f, Option.bind_some, Int.toNat_natCast, if_neg (show ¬ ((3 : Nat) : Int) = 4 by decide)]
    rw [rnum_fwd life _ (by omega) (by omega)]
    dsimp only
    rw [rnum_fwd num _ (by omega) (by omega)]
    dsimp only
    rw [rnum_fwd op _ (by omega) (by omega)]
    dsimp only
    rw [rtext_fwd key _ (by omega) (by decide), Option.bind_some]
    dsimp only
    rw [rtext_fwd val _ (by omega) (by decide), Option.bind_some]
    dsimp only
    rw [wrap64_nat num (by omega), wrap64_nat op (by omega)]
    exact j4_done k _ h w3 w4
  · obtain rfl : kind = 4 := by omega
    obtain ⟨rfl, rfl⟩ := a11 rfl
    have := a8 rfl
    obtain rfl : life = 0 := by omega
    have e : restM ⟨((4 : Nat) : Int), src, dst, tnum, node, ((0 : Nat) : Int), num, 0, ByteArray.empty, val, has, code⟩ = leb num ++ (leb code ++ (leb (if has = true then 1 else 0) ++ textL val [])) := rfl
    simp only [show hasL ((4 : Nat) : Int) = false from rfl, show hasN ((4 : Nat) : Int) = true from rfl, show hasO ((4 : Nat) : Int) = false from rfl, show hasA ((4 : Nat) : Int) = true from rfl, e, msg_Decode.j0, msg_Decode.j1, msg_Decode.j2, msg_Decode.j3, Bool.false_eq_true, if_false, if_true, num_Reader_Num.f, Option.bind_some, Int.toNat_natCast]
    rw [rnum_fwd num _ (by omega) (by omega)]
    dsimp only
    rw [rnum_fwd code _ (by omega) (by omega)]
    dsimp only
    rw [if_pos (show ((4 : Nat) : Int) = 4 from rfl), rnum_fwd _ _ (by split <;> omega) (by split <;> omega)]
    dsimp only
    rw [rtext_fwd val _ (by omega) (by decide), Option.bind_some]
    dsimp only
    rw [wrap64_nat num (by omega), wrap64_nat code (by omega)]
    cases has
    · exact j4_done k _ h w3 w4
    · exact j4_done k _ h w3 w4
  · obtain rfl : kind = 5 := by omega
    obtain ⟨rfl, rfl⟩ := a11 rfl
    obtain rfl := a13 rfl (by decide)
    obtain rfl := a14 (by decide)
    have := a15 rfl
    obtain rfl : code = 0 := by omega
    have e : restM ⟨((5 : Nat) : Int), src, dst, tnum, node, life, num, 0, ByteArray.empty, ByteArray.empty, false, ((0 : Nat) : Int)⟩ = leb life ++ (leb num ++ []) := rfl
    simp only [show hasL ((5 : Nat) : Int) = true from rfl, show hasN ((5 : Nat) : Int) = true from rfl, show hasO ((5 : Nat) : Int) = false from rfl, show hasA ((5 : Nat) : Int) = false from rfl, e, msg_Decode.j0, msg_Decode.j1, msg_Decode.j2, msg_Decode.j3, Bool.false_eq_true, if_false, if_true, num_Reader_Num.f, Option.bind_some, Int.toNat_natCast, if_neg (show ¬ ((5 : Nat) : Int) = 4 by decide)]
    rw [rnum_fwd life _ (by omega) (by omega)]
    dsimp only
    rw [rnum_fwd num _ (by omega) (by omega)]
    dsimp only
    rw [wrap64_nat num (by omega)]
    exact j4_done k _ h w3 w4
  · obtain rfl : kind = 6 := by omega
    obtain ⟨rfl, rfl⟩ := a11 rfl
    have := a8 rfl
    have := a9 rfl
    obtain rfl := a13 rfl (by decide)
    obtain rfl := a14 (by decide)
    obtain rfl : life = 0 := by omega
    obtain rfl : num = 0 := by omega
    have e : restM ⟨((6 : Nat) : Int), src, dst, tnum, node, ((0 : Nat) : Int), ((0 : Nat) : Int), 0, ByteArray.empty, ByteArray.empty, false, code⟩ = leb code ++ [] := rfl
    simp only [show hasL ((6 : Nat) : Int) = false from rfl, show hasN ((6 : Nat) : Int) = false from rfl, show hasO ((6 : Nat) : Int) = false from rfl, show hasA ((6 : Nat) : Int) = true from rfl, e, msg_Decode.j0, msg_Decode.j1, msg_Decode.j2, msg_Decode.j3, Bool.false_eq_true, if_false, if_true, num_Reader_Num.f, Option.bind_some, Int.toNat_natCast, if_neg (show ¬ ((6 : Nat) : Int) = 4 by decide)]
    rw [rnum_fwd code _ (by omega) (by omega)]
    dsimp only
    rw [wrap64_nat code (by omega)]
    exact j4_done k _ h w3 w4
  · have n2 : ¬ (kind : Int) = 2 := by simpa using h2
    have n3 : ¬ (kind : Int) = 3 := by simpa using h3
    have n4 : ¬ (kind : Int) = 4 := by simpa using h4
    have n5 : ¬ (kind : Int) = 5 := by simpa using h5
    have n6 : ¬ (kind : Int) = 6 := by simpa using h6
    have q1 := hasL_o h2 h3 h4 h5 h6
    have q2 := hasN_o h2 h3 h4 h5 h6
    have q3 := hasO_o h2 h3 h4 h5 h6
    have q4 := hasA_o h2 h3 h4 h5 h6
    obtain ⟨rfl, rfl⟩ := a11 q3
    have := a8 q1
    have := a9 q2
    have := a15 q4
    obtain rfl := a13 q3 n4
    obtain rfl := a14 n4
    obtain rfl : life = 0 := by omega
    obtain rfl : num = 0 := by omega
    obtain rfl : code = 0 := by omega
    have e : restM ⟨(kind : Int), src, dst, tnum, node, ((0 : Nat) : Int), ((0 : Nat) : Int), 0, ByteArray.empty, ByteArray.empty, false, ((0 : Nat) : Int)⟩ = [] := by
      unfold restM
      dsimp only
      rw [if_neg n2, if_neg n3, if_neg n4, if_neg n5, if_neg n6]
    simp only [q1, q2, q3, q4, e, msg_Decode.j0, msg_Decode.j1, msg_Decode.j2, msg_Decode.j3, Bool.false_eq_true, if_false, if_true, num_Reader_Num.f, Option.bind_some, Int.toNat_natCast, if_neg n4]
    exact j4_done k _ h w3 w4

end Go.Proofs.Ytolcmjoapnldiaa.Q
