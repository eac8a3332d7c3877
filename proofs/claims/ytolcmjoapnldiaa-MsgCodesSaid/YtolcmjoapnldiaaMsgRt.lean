/- What a right message's fields are, its bytes, and that unlike ones are unlike. No conditions beyond the fields' kinds. -/
import Derived.Test.YtolcmjoapnldiaaMsgRight
import Derived.Test.YtolcmjoapnldiaaRdBack
namespace Go.Proofs.Ytolcmjoapnldiaa.Q
open Go Go.RowKit Go.Proofs.YtolcmjoapnldiaaW.PrintWords Go.Proofs.Ytolcmjoapnldiaa.Leb Go.Proofs.Ytolcmjoapnldiaa.Str
set_option linter.unusedSimpArgs false
set_option linter.unusedVariables false

/-- What a right message's fields are. -/
structure Rt (m : MsgV) : Prop where
  kind : 1 ≤ m.kind ∧ m.kind ≤ 10
  src : 0 ≤ m.src ∧ m.src < 64
  dst : 0 ≤ m.dst ∧ m.dst < 64
  node : 0 ≤ m.node ∧ m.node < 64
  tnum : m.tnum ≤ 1099511627776
  life : m.life ≤ 1099511627776
  num : 0 ≤ m.num ∧ m.num ≤ 1048576
  nl : hasL m.kind = false → m.life = 0
  nn : hasN m.kind = false → m.num = 0
  op : hasO m.kind = true → 1 ≤ m.op ∧ m.op ≤ 3 ∧ m.key.size ≤ 24
  no : hasO m.kind = false → m.op = 0 ∧ m.key = ByteArray.empty
  val : m.val.size ≤ 48
  nv : hasO m.kind = false → m.kind ≠ 4 → m.val = ByteArray.empty
  has : m.kind ≠ 4 → m.has = false
  na : hasA m.kind = false → m.code = 0
  code : 0 ≤ m.code ∧ m.code ≤ 17

theorem empty_of {s : ByteArray} (h : s.toList = []) : s = ByteArray.empty := toList_inj.mp (h.trans (by simp))

theorem rt_of (m : MsgV) (h : rightM m = true) : Rt m := by
  obtain ⟨kind, src, dst, tnum, node, life, num, op, key, val, has, code⟩ := m
  simp only [rightM, rt1, rt2, rt3, rt4, rt5, nodeB, Bool.and_eq_true, Bool.not_eq_true', Bool.or_eq_false_iff, Bool.not_eq_false', decide_eq_false_iff_not, decide_eq_true_eq, Bool.and_eq_false_iff] at h
  obtain ⟨⟨⟨⟨⟨⟨⟨⟨⟨h1, h2⟩, h3⟩, h4⟩, h5⟩, h6⟩, ⟨⟨⟨⟨h7, h8⟩, h9⟩, h10⟩, h11⟩⟩, ⟨h12, h13⟩⟩, ⟨h14, h15⟩⟩, ⟨⟨⟨h16, h17⟩, h18⟩, h19⟩⟩ := h
  constructor <;> dsimp only
  · omega
  · omega
  · omega
  · omega
  · omega
  · omega
  · omega
  · intro q; simp only [q] at h7; simpa using h7
  · intro q; simp only [q] at h9; simpa using h9
  · intro q; simp only [q] at h12; simp at h12; omega
  · intro q; simp only [q] at h13; simp at h13; exact ⟨h13.1, empty_of h13.2⟩
  · omega
  · intro q q2; simp only [q] at h14; simp [q2] at h14; exact empty_of h14
  · intro q; simp [q] at h16; exact h16
  · intro q; simp only [q] at h17; simpa using h17
  · omega


/-- A text's bytes ahead of others. -/
def textL (s : ByteArray) (t : List Int) : List Int := leb s.size ++ (bytesOf s ++ t)

/-- What stands behind the first fields. -/
def restM (m : MsgV) : List Int :=
  if m.kind = 2 then leb m.life.toNat ++ []
  else if m.kind = 3 then leb m.life.toNat ++ (leb m.num.toNat ++ (leb m.op.toNat ++ textL m.key (textL m.val [])))
  else if m.kind = 4 then leb m.num.toNat ++ (leb m.code.toNat ++ (leb (if m.has = true then 1 else 0) ++ textL m.val []))
  else if m.kind = 5 then leb m.life.toNat ++ (leb m.num.toNat ++ [])
  else if m.kind = 6 then leb m.code.toNat ++ []
  else []

/-- A message's bytes. -/
def encM (m : MsgV) : List Int := leb m.kind.toNat ++ (leb m.src.toNat ++ (leb m.dst.toNat ++ (leb m.tnum.toNat ++ (leb m.node.toNat ++ restM m))))

theorem textL_inj {a b : ByteArray} {s t : List Int} (h : textL a s = textL b t) : a = b ∧ s = t := by
  obtain ⟨h1, h2⟩ := leb_inj _ _ _ _ h
  have := List.append_inj h2 (by rw [length_bytes, length_bytes, h1])
  exact ⟨inj this.1, this.2⟩

theorem textL_len (a : ByteArray) (t : List Int) (k : Nat) (h : a.size < 128) : (textL a t).length = 1 + a.size + t.length := by
  unfold textL
  rw [leb_lt h]
  simp [length_bytes]
  omega

theorem textL_app (a : ByteArray) (s t : List Int) : textL a s ++ t = textL a (s ++ t) := by simp [textL]

theorem byt_text {a : ByteArray} {t : List Int} (h : Byt t) : Byt (textL a t) := Byt.append (fun x hx => by have := leb_byte _ x hx; omega) (Byt.append (byt_str a) h)

theorem byt_leb {n : Nat} {t : List Int} (h : Byt t) : Byt (leb n ++ t) := Byt.append (fun x hx => by have := leb_byte _ x hx; omega) h

theorem byt_enc (m : MsgV) : Byt (encM m) := by
  unfold encM restM
  repeat (with_reducible first | exact Byt.nil | apply byt_leb | apply byt_text | split)

/-- None of two unlike right messages' bytes begin the other's. -/
theorem enc_inj {a b : MsgV} (ha : Rt a) (hb : Rt b) (h0 : 0 ≤ a.tnum ∧ 0 ≤ a.life) (h1 : 0 ≤ b.tnum ∧ 0 ≤ b.life) {s t : List Int} (h : encM a ++ s = encM b ++ t) : a = b ∧ s = t := by
  obtain ⟨kind, src, dst, tnum, node, life, num, op, key, val, has, code⟩ := a
  obtain ⟨kind', src', dst', tnum', node', life', num', op', key', val', has', code'⟩ := b
  unfold encM at h
  simp only [List.append_assoc] at h
  obtain ⟨e1, h⟩ := leb_inj _ _ _ _ h
  obtain ⟨e2, h⟩ := leb_inj _ _ _ _ h
  obtain ⟨e3, h⟩ := leb_inj _ _ _ _ h
  obtain ⟨e4, h⟩ := leb_inj _ _ _ _ h
  obtain ⟨e5, h⟩ := leb_inj _ _ _ _ h
  obtain ⟨a1, a2, a3, a4, a5, a6, a7, a8, a9, a10, a11, a12, a13, a14, a15, a16⟩ := ha
  obtain ⟨b1, b2, b3, b4, b5, b6, b7, b8, b9, b10, b11, b12, b13, b14, b15, b16⟩ := hb
  dsimp only at *
  obtain rfl : kind = kind' := by omega
  obtain rfl : src = src' := by omega
  obtain rfl : dst = dst' := by omega
  obtain rfl : tnum = tnum' := by omega
  obtain rfl : node = node' := by omega
  rcases kinds kind with rfl | rfl | rfl | rfl | rfl | ⟨h2, h3, h4, h5, h6⟩
  · simp only [restM, if_true, List.append_assoc, List.nil_append] at h
    obtain ⟨e6, h⟩ := leb_inj _ _ _ _ h
    obtain ⟨rfl, rfl⟩ := a11 rfl
    obtain ⟨rfl, rfl⟩ := b11 rfl
    have := a9 rfl; have := b9 rfl; have := a13 rfl (by decide); have := b13 rfl (by decide); have := a14 (by decide); have := b14 (by decide); have := a15 rfl; have := b15 rfl
    obtain rfl : life = life' := by omega
    simp_all
  · simp only [restM, if_true, if_neg (show ¬ (3 : Int) = 2 by decide), List.append_assoc, List.nil_append, textL_app] at h
    obtain ⟨e6, h⟩ := leb_inj _ _ _ _ h
    obtain ⟨e7, h⟩ := leb_inj _ _ _ _ h
    obtain ⟨e8, h⟩ := leb_inj _ _ _ _ h
    obtain ⟨e9, h⟩ := textL_inj h
    obtain ⟨e10, h⟩ := textL_inj h
    subst e9
    subst e10
    have := a10 rfl; have := b10 rfl; have := a14 (by decide); have := b14 (by decide); have := a15 rfl; have := b15 rfl
    obtain rfl : life = life' := by omega
    obtain rfl : num = num' := by omega
    obtain rfl : op = op' := by omega
    simp_all
  · simp only [restM, if_true, if_neg (show ¬ (4 : Int) = 2 by decide), if_neg (show ¬ (4 : Int) = 3 by decide), List.append_assoc, List.nil_append, textL_app] at h
    obtain ⟨e6, h⟩ := leb_inj _ _ _ _ h
    obtain ⟨e7, h⟩ := leb_inj _ _ _ _ h
    obtain ⟨e8, h⟩ := leb_inj _ _ _ _ h
    obtain ⟨e9, h⟩ := textL_inj h
    subst e9
    obtain ⟨rfl, rfl⟩ := a11 rfl
    obtain ⟨rfl, rfl⟩ := b11 rfl
    have := a8 rfl; have := b8 rfl
    obtain rfl : num = num' := by omega
    obtain rfl : code = code' := by omega
    have : has = has' := by cases has <;> cases has' <;> simp_all
    simp_all
  · simp only [restM, if_true, if_neg (show ¬ (5 : Int) = 2 by decide), if_neg (show ¬ (5 : Int) = 3 by decide), if_neg (show ¬ (5 : Int) = 4 by decide), List.append_assoc, List.nil_append] at h
    obtain ⟨e6, h⟩ := leb_inj _ _ _ _ h
    obtain ⟨e7, h⟩ := leb_inj _ _ _ _ h
    obtain ⟨rfl, rfl⟩ := a11 rfl
    obtain ⟨rfl, rfl⟩ := b11 rfl
    have := a13 rfl (by decide); have := b13 rfl (by decide); have := a14 (by decide); have := b14 (by decide); have := a15 rfl; have := b15 rfl
    obtain rfl : life = life' := by omega
    obtain rfl : num = num' := by omega
    simp_all
  · simp only [restM, if_true, if_neg (show ¬ (6 : Int) = 2 by decide), if_neg (show ¬ (6 : Int) = 3 by decide), if_neg (show ¬ (6 : Int) = 4 by decide), if_neg (show ¬ (6 : Int) = 5 by decide), List.append_assoc, List.nil_append] at h
    obtain ⟨e6, h⟩ := leb_inj _ _ _ _ h
    obtain ⟨rfl, rfl⟩ := a11 rfl
    obtain ⟨rfl, rfl⟩ := b11 rfl
    have := a8 rfl; have := b8 rfl; have := a9 rfl; have := b9 rfl; have := a13 rfl (by decide); have := b13 rfl (by decide); have := a14 (by decide); have := b14 (by decide)
    obtain rfl : code = code' := by omega
    simp_all
  · have n2 : ¬ kind = 2 := by simpa using h2
    have n3 : ¬ kind = 3 := by simpa using h3
    have n4 : ¬ kind = 4 := by simpa using h4
    have n5 : ¬ kind = 5 := by simpa using h5
    have n6 : ¬ kind = 6 := by simpa using h6
    simp only [restM, if_neg n2, if_neg n3, if_neg n4, if_neg n5, if_neg n6, List.nil_append] at h
    have q1 := hasL_o h2 h3 h4 h5 h6
    have q2 := hasN_o h2 h3 h4 h5 h6
    have q3 := hasO_o h2 h3 h4 h5 h6
    have q4 := hasA_o h2 h3 h4 h5 h6
    obtain ⟨rfl, rfl⟩ := a11 q3
    obtain ⟨rfl, rfl⟩ := b11 q3
    have := a8 q1; have := b8 q1; have := a9 q2; have := b9 q2; have := a13 q3 n4; have := b13 q3 n4; have := a14 n4; have := b14 n4; have := a15 q4; have := b15 q4
    simp_all

/-- A right message's bytes go into a letter. -/
theorem enc_len {a : MsgV} (ha : Rt a) (h0 : 0 ≤ a.tnum ∧ 0 ≤ a.life) : (encM a).length ≤ 150 ∧ 0 < (encM a).length := by
  obtain ⟨kind, src, dst, tnum, node, life, num, op, key, val, has, code⟩ := a
  obtain ⟨a1, a2, a3, a4, a5, a6, a7, a8, a9, a10, a11, a12, a13, a14, a15, a16⟩ := ha
  dsimp only at *
  have g1 := leb_length 1 kind.toNat (by omega)
  have g2 := leb_length 1 src.toNat (by omega)
  have g3 := leb_length 1 dst.toNat (by omega)
  have g4 := leb_length 6 tnum.toNat (by omega)
  have g5 := leb_length 1 node.toNat (by omega)
  have g6 := leb_length 6 life.toNat (by omega)
  have g7 := leb_length 3 num.toNat (by omega)
  have g8 := leb_length 1 code.toNat (by omega)
  have g9 := leb_length 1 (if has = true then 1 else 0) (by split <;> omega)
  have g10 := leb_pos kind.toNat
  have gv := textL_len val [] 1 (by omega)
  simp only [List.length_nil] at gv
  unfold encM restM
  dsimp only
  by_cases n3 : kind = 3
  · subst n3
    have := a10 rfl
    have gk := textL_len key (textL val []) 1 (by omega)
    have g11 := leb_length 1 op.toNat (by omega)
    rw [if_neg (by decide), if_pos rfl]
    simp only [List.length_append, gk, gv]
    omega
  · rw [if_neg n3]
    simp only [List.length_append]
    split
    · simp only [List.length_append, List.length_nil]; omega
    · split
      · simp only [List.length_append, gv]; omega
      · split
        · simp only [List.length_append, List.length_nil]; omega
        · split
          · simp only [List.length_append, List.length_nil]; omega
          · simp only [List.length_nil]; omega

end Go.Proofs.Ytolcmjoapnldiaa.Q
