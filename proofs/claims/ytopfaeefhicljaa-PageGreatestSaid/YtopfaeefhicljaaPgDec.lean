/- What Decode answers, as a plain function: the page with which bytes begin, and none else. Conditions: bytes no longer than memory. -/
import Derived.Test.YtopfaeefhicljaaP16
import Derived.Test.YtopfaeefhicljaaPgEnc
namespace Go.Proofs.Ytopfaeefhicljaa.Q
open Go Go.RowKit Go.Proofs.YtopfaeefhicljaaW.PrintWords Go.Proofs.Ytopfaeefhicljaa.Leb Go.Proofs.Ytopfaeefhicljaa.Str
set_option linter.unusedVariables false
set_option linter.unusedSimpArgs false

/-! ### a reader that can't read has no bytes -/
theorem rgo_err {most : Int} : ∀ (l : List Int) (j : Nat) (acc : Int), (rgo most j acc l).2.e ≠ 0 → (rgo most j acc l).2.b = []
  | [], j, acc => by rw [rgo_short]; intro _; rfl
  | x :: t, j, acc => by
    by_cases hbad : (j = 9 ∧ 1 < x) ∨ (0 < j ∧ x = 0)
    · rw [rgo_bad hbad]; intro _; rfl
    · by_cases hc : 128 ≤ x
      · rw [rgo_more hbad hc]
        exact rgo_err t _ _
      · by_cases hm : most < acc + x % 128 * 128 ^ j
        · rw [rgo_many hbad (by omega) hm]; intro _; rfl
        · rw [rgo_done hbad (by omega) hm]
          intro h
          exact absurd rfl h

/-- A reader's state, as it comes up: its bytes are bytes; where it can't read it has none. -/
structure Ok (s : RdS) : Prop where
  b : Byt s.b
  e : s.e ≠ 0 → s.b = []

theorem Ok.num {s : RdS} (h : Ok s) (m : Int) : Ok (rnum s m).2 := by
  by_cases he : (rnum s m).2.e = 0
  · exact ⟨rnum_by h.b he, fun h2 => absurd he h2⟩
  · have hb : (rnum s m).2.b = [] := by
      unfold rnum at he ⊢
      by_cases c : s.e = 0
      · rw [if_pos c] at he ⊢
        exact rgo_err _ _ _ he
      · rw [if_neg c]
        exact h.e c
    exact ⟨by rw [hb]; exact Byt.nil, fun _ => hb⟩

theorem Ok.text {s : RdS} (h : Ok s) {m : Int} (hm : 0 ≤ m) : Ok (rtext s m).2 := by
  by_cases he : (rtext s m).2.e = 0
  · obtain ⟨a, h1, _⟩ := rtext_back hm h.b he
    have hb := h.b
    rw [h1] at hb
    exact ⟨hb.right.right, fun h2 => absurd he h2⟩
  · have hb : (rtext s m).2.b = [] := by
      have hmm : (if 0 < m then m else 0) = m := by split <;> omega
      unfold rtext at he ⊢
      simp only [hmm] at he ⊢
      have := h.num m
      split at he
      · rename_i h1
        split at he
        · rename_i h2
          rw [if_pos h1, if_pos h2]
        · exact absurd rfl he
      · rename_i h1
        rw [if_neg h1]
        exact this.e h1
    exact ⟨by rw [hb]; exact Byt.nil, fun _ => hb⟩

theorem snoc_leaf : ∀ (ks vs : List ByteArray) (a b : ByteArray) (t : List Int), ks.length = vs.length → leafL (ks ++ [a]) (vs ++ [b]) t = leafL ks vs (textL a (textL b t))
  | [], [], a, b, t, _ => by simp [leafL]
  | k :: ks, v :: vs, a, b, t, h => by
    simp only [List.cons_append, leafL]
    rw [snoc_leaf ks vs a b t (by simpa using h)]
  | [], _ :: _, _, _, _, h => by simp at h
  | _ :: _, [], _, _, _, h => by simp at h
theorem snoc_pair : ∀ (ks : List ByteArray) (ns : List Int) (a : ByteArray) (n : Int) (t : List Int), ks.length = ns.length → pairL (ks ++ [a]) (ns ++ [n]) t = pairL ks ns (textL a (leb n.toNat ++ t))
  | [], [], a, b, t, _ => by simp [pairL]
  | k :: ks, v :: vs, a, b, t, h => by
    simp only [List.cons_append, pairL]
    rw [snoc_pair ks vs a b t (by simpa using h)]
  | [], _ :: _, _, _, _, h => by simp at h
  | _ :: _, [], _, _, _, h => by simp at h
theorem snoc_inner (ks : List ByteArray) (ns : List Int) (a : ByteArray) (n : Int) (t : List Int) (h : ks.length + 1 = ns.length) : innerL (ks ++ [a]) (ns ++ [n]) t = innerL ks ns (textL a (leb n.toNat ++ t)) := by
  cases ns with
  | nil => simp at h
  | cons m ms =>
    simp only [List.cons_append, innerL]
    rw [snoc_pair ks ms a n t (by simpa using h)]

/-! ### the end of Decode -/
def zeroP := some ((0 : Int), ([] : List ByteArray), ([] : List ByteArray), ([] : List Int), (0 : Int), (0 : Int), (0 : Int), (0 : Int), (0 : Int), (11 : Int))
def outP (p : PgV) (lsn : Int) := some (p.kind, p.keys, p.vals, p.kids, p.root, p.next, p.size, p.idle, lsn, (0 : Int))
/-- What Decode may tell of bytes. -/
def DecP (x0 : List Int) (r : Option (Int × List ByteArray × List ByteArray × List Int × Int × Int × Int × Int × Int × Int)) : Prop :=
  r = zeroP ∨ ∃ (p : PgV) (m : Nat) (t : List Int), r = outP p (m : Int) ∧ rightP p = true ∧ x0 = encP p m t ∧ (∀ x ∈ t, x = 0) ∧ m ≤ 9223372036854775807

theorem encP_len (p : PgV) (m : Nat) (t : List Int) : t.length ≤ (encP p m t).length := by rw [encP_app]; simp
theorem encP_drop (p : PgV) (m : Nat) (t : List Int) : (encP p m t).drop ((encP p m t).length - t.length) = t := by
  have h : (encP p m t).length - t.length = (encP p m []).length := by
    rw [encP_app p m t, List.length_append]
    omega
  rw [h, encP_app p m t, List.drop_left]

/-- The last steps, the reader at its end: the bytes are the page's, and noughts. -/
theorem fin_yes (k : Nat) (p : PgV) (m : Nat) (t : List Int) (hk : 100 ≤ k) (hr : rightP p = true) (ht : ∀ x ∈ t, x = 0) (hx : (encP p m t).length < 1152921504606846976)
    (h1 : p.keys.length < 90) (h2 : p.vals.length < 90) (h3 : p.kids.length < 90) :
    page_Decode.j2 k (encP p m t) (m : Int) ⟨t, 0⟩ p.kind p.keys p.vals p.kids p.root p.next p.size p.idle = outP p (m : Int) := by
  obtain ⟨k, rfl⟩ : ∃ m, k = m + 1 := ⟨k - 1, by omega⟩
  simp only [page_Decode.j2, num_Reader_Left.f, num_Reader_Err.f, Option.bind_some]
  have hl := encP_len p m t
  have w1 : wrap64 (((encP p m t).length : Int) - (t.length : Int)) = (((encP p m t).length - t.length : Nat) : Int) := by rw [wrap64_id _ (by omega) (by omega)]; omega
  rw [w1, if_pos (by omega), if_pos (by omega), if_pos trivial, pright_f k p (by omega) (by omega) (by omega) (by omega), hr, Option.bind_some, if_pos rfl]
  rw [Int.toNat_natCast, encP_drop]
  have ha : t.any (· != 0) = false := by
    rw [List.any_eq_false]
    intro x hx
    simp [ht x hx]
  simp only [slices_ContainsFunc_byte_byte.f, if_true, Option.bind_some, ha]
  rw [if_neg (by simp)]
  rfl

theorem fin_any (k : Nat) (p : PgV) (lsn : Int) (s : RdS) (x0 : List Int) (hk : 100 ≤ k) (hs : Ok s) (hx : x0.length < 1152921504606846976)
    (h0 : s.e = 0 → ∃ m : Nat, lsn = (m : Int) ∧ m ≤ 9223372036854775807 ∧ x0 = encP p m s.b)
    (h1 : p.keys.length < 90) (h2 : p.vals.length < 90) (h3 : p.kids.length < 90) :
    DecP x0 (page_Decode.j2 k x0 lsn s p.kind p.keys p.vals p.kids p.root p.next p.size p.idle) := by
  obtain ⟨k, rfl⟩ : ∃ m, k = m + 1 := ⟨k - 1, by omega⟩
  simp only [page_Decode.j2, num_Reader_Left.f, num_Reader_Err.f, Option.bind_some]
  have hl : s.b.length ≤ x0.length := by
    by_cases he : s.e = 0
    · obtain ⟨m, _, _, e⟩ := h0 he
      rw [e]
      exact encP_len p m s.b
    · rw [hs.e he]
      simp
  have w1 : wrap64 ((x0.length : Int) - (s.b.length : Int)) = ((x0.length - s.b.length : Nat) : Int) := by rw [wrap64_id _ (by omega) (by omega)]; omega
  rw [w1, if_pos (by omega), if_pos (by omega)]
  by_cases he : s.e = 0
  · obtain ⟨m, rfl, hm, e⟩ := h0 he
    rw [if_pos he, pright_f k p (by omega) (by omega) (by omega) (by omega), Option.bind_some]
    by_cases hr : rightP p = true
    · rw [if_pos hr, Int.toNat_natCast]
      have hd : x0.drop (x0.length - s.b.length) = s.b := by rw [e]; exact encP_drop p m s.b
      rw [hd]
      simp only [slices_ContainsFunc_byte_byte.f, if_true, Option.bind_some]
      by_cases ha : s.b.any (· != 0) = true
      · rw [if_pos ha]
        exact .inl rfl
      · rw [if_neg ha]
        refine .inr ⟨p, m, s.b, rfl, hr, e, fun x hx => ?_, hm⟩
        rw [Bool.not_eq_true, List.any_eq_false] at ha
        simpa using ha x hx
    · rw [if_neg hr]
      exact .inl rfl
  · rw [if_neg he]
    exact .inl rfl

/-! ### the loops, backwards -/
theorem wrapu_succ (j : Nat) (h : j < 100) : IntKind.u64.wrap ((j : Int) + 1) = ((j + 1 : Nat) : Int) := by
  have := wrap_nat (j + 1) (by omega)
  rw [← this]
  congr 1

theorem dec_l0 (x0 : List Int) (lsn : Int) (n : Nat) (hn : n ≤ 6) (hx : x0.length < 1152921504606846976) : ∀ (d j k : Nat) (s : RdS) (keys vals : List ByteArray), j + d = n → d + 110 ≤ k → keys.length = j → vals.length = j → Ok s →
    (s.e = 0 → ∃ m : Nat, lsn = (m : Int) ∧ m ≤ 9223372036854775807 ∧ x0 = leb 1 ++ (leb m ++ (leb n ++ leafL keys vals s.b))) →
    DecP x0 (page_Decode.l0 k x0 lsn (n : Int) (j : Int) s 1 keys vals 0 0 0 0) := by
  intro d
  induction d with
  | zero =>
    intro j k s keys vals h hk hkl hvl hs h0
    obtain ⟨k, rfl⟩ : ∃ m, k = m + 1 := ⟨k - 1, by omega⟩
    simp only [page_Decode.l0]
    rw [if_neg (by omega)]
    refine fin_any k ⟨1, keys, vals, [], 0, 0, 0, 0⟩ lsn s x0 (by omega) hs hx (fun he => ?_) (by dsimp only; omega) (by dsimp only; omega) (by simp)
    obtain ⟨m, h1, h2, h3⟩ := h0 he
    refine ⟨m, h1, h2, ?_⟩
    rw [h3]
    unfold encP bodyP
    dsimp only
    rw [if_pos rfl, hkl, show j = n by omega]
    rfl
  | succ d ih =>
    intro j k s keys vals h hk hkl hvl hs h0
    obtain ⟨k, rfl⟩ : ∃ m, k = m + 1 := ⟨k - 1, by omega⟩
    simp only [page_Decode.l0]
    rw [if_pos (by omega), text24, Option.bind_some, if_pos (by omega), text48, Option.bind_some, if_pos (by omega), wrapu_succ j (by omega)]
    refine ih (j + 1) k _ _ _ (by omega) (by omega) (by simp; omega) (by simp; omega) ((hs.text (by omega)).text (by omega)) (fun he => ?_)
    have e1 := rtext_e' he
    have e0 := rtext_e' e1
    obtain ⟨m, h1, h2, h3⟩ := h0 e0
    refine ⟨m, h1, h2, ?_⟩
    obtain ⟨a, q1, q2, _⟩ := rtext_back (by omega) hs.b e1
    obtain ⟨b, q3, q4, _⟩ := rtext_back (by omega) (hs.text (m := 24) (by omega)).b he
    rw [q2, q4, snoc_leaf keys vals a b _ (by omega)]
    have e3 : s.b = textL a (rtext s 24).2.b := congrArg RdS.b q1
    have e4 : (rtext s 24).2.b = textL b (rtext (rtext s 24).2 48).2.b := congrArg RdS.b q3
    rw [← e4, ← e3]
    exact h3

theorem dec_l1 (x0 : List Int) (lsn : Int) (n : Nat) (hn : n ≤ 8) (hx : x0.length < 1152921504606846976) : ∀ (d j k : Nat) (s : RdS) (keys : List ByteArray) (kids : List Int), j + d = n → d + 110 ≤ k → keys.length = j - 1 → kids.length = j → Ok s →
    (s.e = 0 → ∃ m : Nat, lsn = (m : Int) ∧ m ≤ 9223372036854775807 ∧ x0 = leb 2 ++ (leb m ++ (leb n ++ innerL keys kids s.b))) →
    DecP x0 (page_Decode.l1 k x0 lsn (n : Int) (j : Int) s 2 keys kids 0 0 0 0) := by
  intro d
  induction d with
  | zero =>
    intro j k s keys kids h hk hkl hvl hs h0
    obtain ⟨k, rfl⟩ : ∃ m, k = m + 1 := ⟨k - 1, by omega⟩
    simp only [page_Decode.l1]
    rw [if_neg (by omega)]
    refine fin_any k ⟨2, keys, [], kids, 0, 0, 0, 0⟩ lsn s x0 (by omega) hs hx (fun he => ?_) (by dsimp only; omega) (by simp) (by dsimp only; omega)
    obtain ⟨m, h1, h2, h3⟩ := h0 he
    refine ⟨m, h1, h2, ?_⟩
    rw [h3]
    unfold encP bodyP
    dsimp only
    rw [if_neg (by omega), if_pos rfl, hvl, show j = n by omega]
    rfl
  | succ d ih =>
    intro j k s keys kids h hk hkl hvl hs h0
    obtain ⟨k, rfl⟩ : ∃ m, k = m + 1 := ⟨k - 1, by omega⟩
    simp only [page_Decode.l1, num_Reader_Num.f]
    by_cases hj : 0 < j
    · have hl1 : keys.length + 1 = kids.length := by clear h0 ih; omega
      have hl2 : ∀ a : ByteArray, (keys ++ [a]).length = j + 1 - 1 := fun a => by rw [List.length_append, List.length_singleton]; omega
      have hl3 : ∀ a : Int, (kids ++ [a]).length = j + 1 := fun a => by rw [List.length_append, List.length_singleton, hvl]
      rw [if_pos (by omega), if_pos (by omega), text24, Option.bind_some, if_pos (by omega), Option.bind_some, if_pos (by omega), wrapu_succ j (by omega)]
      refine ih (j + 1) k _ _ _ (by omega) (by omega) (hl2 _) (hl3 _) ((hs.text (by omega)).num _) (fun he => ?_)
      have e1 := rnum_e' he
      have e0 := rtext_e' e1
      obtain ⟨m, h1, h2, h3⟩ := h0 e0
      refine ⟨m, h1, h2, ?_⟩
      obtain ⟨a, q1, q2, _⟩ := rtext_back (by omega) hs.b e1
      obtain ⟨b, q3, q4, q5⟩ := rnum_back (hs.text (m := 24) (by omega)).b he
      rw [q2, q4, wrap64_nat b (by omega), snoc_inner keys kids a _ _ hl1, Int.toNat_natCast]
      have e3 : s.b = textL a (rtext s 24).2.b := congrArg RdS.b q1
      have e4 : (rtext s 24).2.b = leb b ++ (rnum (rtext s 24).2 65535).2.b := congrArg RdS.b q3
      rw [← e4, ← e3]
      exact h3
    · obtain rfl : j = 0 := by omega
      obtain rfl : keys = [] := List.eq_nil_of_length_eq_zero (by omega)
      obtain rfl : kids = [] := List.eq_nil_of_length_eq_zero (by omega)
      rw [if_pos (by omega), if_neg (by omega), Option.bind_some, if_pos (by simp), wrapu_succ 0 (by omega)]
      refine ih 1 k _ _ _ (by omega) (by omega) (by simp) (by simp) (hs.num _) (fun he => ?_)
      have e1 := rnum_e' he
      obtain ⟨m, h1, h2, h3⟩ := h0 e1
      refine ⟨m, h1, h2, ?_⟩
      obtain ⟨b, q3, q4, q5⟩ := rnum_back hs.b he
      rw [q4, wrap64_nat b (by omega)]
      have e4 : s.b = leb b ++ (rnum s 65535).2.b := congrArg RdS.b q3
      simp only [List.nil_append, innerL, pairL, Int.toNat_natCast]
      rw [← e4]
      exact h3

/-- What Decode tells of whatever bytes. -/
theorem dec_any_p (k : Nat) (x0 : List Int) (hk : 200 ≤ k) (hy : Byt x0) (hx : x0.length < 1152921504606846976) : DecP x0 (page_Decode.f k x0) := by
  unfold page_Decode.f num_Read.f
  rw [if_pos (bytB_of hy), Option.bind_some]
  simp only [num_Reader_Num.f, Option.bind_some]
  have s0 : Ok ⟨x0, 0⟩ := ⟨hy, fun h => absurd rfl h⟩
  have s1 := s0.num 4
  have s2 := s1.num 9223372036854775807
  have b1 := rnum_le (s := ⟨x0, 0⟩) (m := 4) (by omega)
  have b1' := (rnum_range (s := ⟨x0, 0⟩) (most := 4) hy).1
  have w1 : wrap64 (rnum ⟨x0, 0⟩ 4).1 = (rnum ⟨x0, 0⟩ 4).1 := wrap64_id _ (by omega) (by omega)
  rw [w1]
  -- what was read ahead
  have h0 : (rnum (rnum ⟨x0, 0⟩ 4).2 9223372036854775807).2.e = 0 → ∃ m : Nat, (rnum (rnum ⟨x0, 0⟩ 4).2 9223372036854775807).1 = (m : Int) ∧ m ≤ 9223372036854775807 ∧ x0 = leb (rnum ⟨x0, 0⟩ 4).1.toNat ++ (leb m ++ (rnum (rnum ⟨x0, 0⟩ 4).2 9223372036854775807).2.b) := by
    intro he
    have e1 := rnum_e' he
    obtain ⟨a, q1, q2, _⟩ := rnum_back hy e1
    obtain ⟨b, q3, q4, q5⟩ := rnum_back s1.b he
    refine ⟨b, q4, by omega, ?_⟩
    have e3 : x0 = leb a ++ (rnum ⟨x0, 0⟩ 4).2.b := congrArg RdS.b q1
    have e4 : (rnum ⟨x0, 0⟩ 4).2.b = leb b ++ (rnum (rnum ⟨x0, 0⟩ 4).2 9223372036854775807).2.b := congrArg RdS.b q3
    rw [q2, Int.toNat_natCast, ← e4]
    exact e3
  generalize (rnum ⟨x0, 0⟩ 4).1 = kd at b1 b1' h0 ⊢
  generalize (rnum (rnum ⟨x0, 0⟩ 4).2 9223372036854775807).1 = lsn at h0 ⊢
  generalize (rnum (rnum ⟨x0, 0⟩ 4).2 9223372036854775807).2 = s at s2 h0 ⊢
  clear s1 s0 w1
  by_cases c1 : kd = 1
  · subst c1
    rw [if_pos rfl]
    have n0 := (rnum_range (s := s) (most := 6) s2.b).1
    have n1 := rnum_le (s := s) (m := 6) (by omega)
    have h1 := dec_l0 x0 lsn (rnum s 6).1.toNat (by omega) hx (rnum s 6).1.toNat 0 k (rnum s 6).2 [] [] (by omega) (by omega) rfl rfl (s2.num 6) (fun he => by
      have e1 := rnum_e' he
      obtain ⟨m, q1, q2, q3⟩ := h0 e1
      obtain ⟨b, q4, q5, _⟩ := rnum_back s2.b he
      refine ⟨m, q1, q2, ?_⟩
      have e3 : s.b = leb b ++ (rnum s 6).2.b := congrArg RdS.b q4
      rw [q5, Int.toNat_natCast]
      simp only [leafL]
      rw [← e3]
      exact q3)
    rw [show (((rnum s 6).1.toNat : Nat) : Int) = (rnum s 6).1 by omega] at h1
    exact h1
  · rw [if_neg c1]
    by_cases c2 : kd = 2
    · subst c2
      rw [if_pos rfl]
      have n0 := (rnum_range (s := s) (most := 8) s2.b).1
      have n1 := rnum_le (s := s) (m := 8) (by omega)
      have h1 := dec_l1 x0 lsn (rnum s 8).1.toNat (by omega) hx (rnum s 8).1.toNat 0 k (rnum s 8).2 [] [] (by omega) (by omega) rfl rfl (s2.num 8) (fun he => by
        have e1 := rnum_e' he
        obtain ⟨m, q1, q2, q3⟩ := h0 e1
        obtain ⟨b, q4, q5, _⟩ := rnum_back s2.b he
        refine ⟨m, q1, q2, ?_⟩
        have e3 : s.b = leb b ++ (rnum s 8).2.b := congrArg RdS.b q4
        rw [q5, Int.toNat_natCast]
        simp only [innerL]
        rw [← e3]
        exact q3)
      rw [show (((rnum s 8).1.toNat : Nat) : Int) = (rnum s 8).1 by omega] at h1
      exact h1
    · rw [if_neg c2]
      by_cases c3 : kd = 3
      · subst c3
        rw [if_pos rfl]
        have t1 := s2.num 65535
        have t2 := t1.num 65535
        have t3 := t2.num 65536
        have t4 := t3.num 65536
        have g : ∀ (s : RdS) (m : Int), Ok s → 0 ≤ m → m < 100000 → wrap64 (rnum s m).1 = (rnum s m).1 := fun s m hs hm hm2 => wrap64_id _ (by have := (rnum_range (s := s) (most := m) hs.b).1; omega) (by have := rnum_le (s := s) hm; omega)
        rw [g _ _ s2 (by omega) (by omega), g _ _ t1 (by omega) (by omega), g _ _ t2 (by omega) (by omega), g _ _ t3 (by omega) (by omega)]
        generalize hv1 : (rnum s 65535).1 = v1
        generalize hv2 : (rnum (rnum s 65535).2 65535).1 = v2
        generalize hv3 : (rnum (rnum (rnum s 65535).2 65535).2 65536).1 = v3
        generalize hv4 : (rnum (rnum (rnum (rnum s 65535).2 65535).2 65536).2 65536).1 = v4
        refine fin_any k ⟨3, [], [], [], v1, v2, v3, v4⟩ lsn _ x0 (by omega) t4 hx (fun he => ?_) (by simp) (by simp) (by simp)
        have e3 := rnum_e' he
        have e2 := rnum_e' e3
        have e1 := rnum_e' e2
        have e0 := rnum_e' e1
        obtain ⟨m, q1, q2, q3⟩ := h0 e0
        obtain ⟨a, a1, a2, _⟩ := rnum_back s2.b e1
        obtain ⟨b, a3, a4, _⟩ := rnum_back t1.b e2
        obtain ⟨c, a5, a6, _⟩ := rnum_back t2.b e3
        obtain ⟨d, a7, a8, _⟩ := rnum_back t3.b he
        refine ⟨m, q1, q2, ?_⟩
        unfold encP bodyP
        dsimp only
        rw [hv1] at a2
        rw [hv2] at a4
        rw [hv3] at a6
        rw [hv4] at a8
        rw [if_neg (by omega), if_neg (by omega), if_pos rfl, a2, a4, a6, a8]
        simp only [Int.toNat_natCast]
        have f1 : s.b = _ := congrArg RdS.b a1
        have f2 : (rnum s 65535).2.b = _ := congrArg RdS.b a3
        have f3 : (rnum (rnum s 65535).2 65535).2.b = _ := congrArg RdS.b a5
        have f4 : (rnum (rnum (rnum s 65535).2 65535).2 65536).2.b = _ := congrArg RdS.b a7
        dsimp only at f1 f2 f3 f4
        rw [← f4, ← f3, ← f2, ← f1]
        exact q3
      · rw [if_neg c3]
        by_cases c4 : kd = 4
        · subst c4
          rw [if_pos rfl]
          have t1 := s2.num 65535
          rw [wrap64_id (rnum s 65535).1 (by have := (rnum_range (s := s) (most := 65535) s2.b).1; omega) (by have := rnum_le (s := s) (m := 65535) (by omega); omega)]
          generalize hv1 : (rnum s 65535).1 = v1
          refine fin_any k ⟨4, [], [], [], 0, v1, 0, 0⟩ lsn _ x0 (by omega) t1 hx (fun he => ?_) (by simp) (by simp) (by simp)
          have e0 := rnum_e' he
          obtain ⟨m, q1, q2, q3⟩ := h0 e0
          obtain ⟨a, a1, a2, _⟩ := rnum_back s2.b he
          refine ⟨m, q1, q2, ?_⟩
          unfold encP bodyP
          dsimp only
          rw [hv1] at a2
          rw [if_neg (by omega), if_neg (by omega), if_neg (by omega), if_pos rfl, a2]
          simp only [Int.toNat_natCast]
          have f1 : s.b = _ := congrArg RdS.b a1
          dsimp only at f1
          rw [← f1]
          exact q3
        · rw [if_neg c4]
          refine fin_any k ⟨kd, [], [], [], 0, 0, 0, 0⟩ lsn s x0 (by omega) s2 hx (fun he => ?_) (by simp) (by simp) (by simp)
          obtain ⟨m, q1, q2, q3⟩ := h0 he
          refine ⟨m, q1, q2, ?_⟩
          unfold encP bodyP
          dsimp only
          rw [if_neg c1, if_neg c2, if_neg c3, if_neg c4]
          exact q3

/-! ### the loops, forwards -/
theorem dec_l0_fwd (x0 : List Int) (lsn : Int) (keys vals : List ByteArray) (t : List Int) (F : Option (Int × List ByteArray × List ByteArray × List Int × Int × Int × Int × Int × Int × Int)) (hn : keys.length ≤ 6) (hv : vals.length = keys.length) (hks : ∀ s ∈ keys, s.size ≤ 24) (hvs : ∀ s ∈ vals, s.size ≤ 48)
    (hF : ∀ k, 100 ≤ k → page_Decode.j2 k x0 lsn ⟨t, 0⟩ 1 keys vals [] 0 0 0 0 = F) : ∀ (d j k : Nat), j + d = keys.length → d + 110 ≤ k →
    page_Decode.l0 k x0 lsn (keys.length : Int) (j : Int) ⟨leafL (keys.drop j) (vals.drop j) t, 0⟩ 1 (keys.take j) (vals.take j) 0 0 0 0 = F := by
  intro d
  induction d with
  | zero =>
    intro j k h hk
    obtain ⟨k, rfl⟩ : ∃ m, k = m + 1 := ⟨k - 1, by omega⟩
    simp only [page_Decode.l0]
    rw [if_neg (by omega), List.drop_of_length_le (by omega), List.take_of_length_le (by omega), List.take_of_length_le (by omega)]
    simp only [leafL]
    exact hF k (by omega)
  | succ d ih =>
    intro j k h hk
    obtain ⟨k, rfl⟩ : ∃ m, k = m + 1 := ⟨k - 1, by omega⟩
    have s1 := hks _ (getD_mem keys j ByteArray.empty (by omega))
    have s2 := hvs _ (getD_mem vals j ByteArray.empty (by omega))
    rw [drop_cons keys j ByteArray.empty (by omega), drop_cons vals j ByteArray.empty (by omega)]
    simp only [page_Decode.l0, leafL]
    rw [if_pos (by omega), rtext_fwd _ _ (by omega) (by omega), Option.bind_some, if_pos (by simp; omega), rtext_fwd _ _ (by omega) (by omega), Option.bind_some, if_pos (by simp; omega), wrapu_succ j (by omega)]
    have e1 : keys.take j ++ [keys.getD j ByteArray.empty] = keys.take (j + 1) := by
      rw [List.take_succ_eq_append_getElem (by omega)]
      simp [List.getD_eq_getElem?_getD, List.getElem?_eq_getElem (show j < keys.length by omega)]
    have e2 : vals.take j ++ [vals.getD j ByteArray.empty] = vals.take (j + 1) := by
      rw [List.take_succ_eq_append_getElem (by omega)]
      simp [List.getD_eq_getElem?_getD, List.getElem?_eq_getElem (show j < vals.length by omega)]
    rw [e1, e2]
    exact ih (j + 1) k (by omega) (by omega)

theorem num_fwd (n : Nat) (t : List Int) (most : Int) (h : n < 18446744073709551616) (hm : (n : Int) ≤ most) : num_Reader_Num.f ⟨leb n ++ t, 0⟩ most = some ((n : Int), ⟨t, 0⟩) := by
  unfold num_Reader_Num.f
  rw [rnum_fwd n t h hm]

theorem dec_l1_fwd (x0 : List Int) (lsn : Int) (keys : List ByteArray) (kids : List Int) (t : List Int) (F : Option (Int × List ByteArray × List ByteArray × List Int × Int × Int × Int × Int × Int × Int)) (hn : kids.length ≤ 8) (hv : keys.length + 1 = kids.length) (hks : ∀ s ∈ keys, s.size ≤ 24) (hvs : ∀ n ∈ kids, 0 ≤ n ∧ n < 65536)
    (hF : ∀ k, 100 ≤ k → page_Decode.j2 k x0 lsn ⟨t, 0⟩ 2 keys [] kids 0 0 0 0 = F) : ∀ (d j k : Nat), 1 ≤ j → j + d = kids.length → d + 110 ≤ k →
    page_Decode.l1 k x0 lsn (kids.length : Int) (j : Int) ⟨pairL (keys.drop (j - 1)) (kids.drop j) t, 0⟩ 2 (keys.take (j - 1)) (kids.take j) 0 0 0 0 = F := by
  intro d
  induction d with
  | zero =>
    intro j k h1 h hk
    obtain ⟨k, rfl⟩ : ∃ m, k = m + 1 := ⟨k - 1, by omega⟩
    simp only [page_Decode.l1]
    rw [if_neg (by omega), List.drop_of_length_le (by omega), List.take_of_length_le (by omega), List.take_of_length_le (by omega)]
    simp only [pairL]
    exact hF k (by omega)
  | succ d ih =>
    intro j k h1 h hk
    obtain ⟨k, rfl⟩ : ∃ m, k = m + 1 := ⟨k - 1, by omega⟩
    have s1 := hks _ (getD_mem keys (j - 1) ByteArray.empty (by omega))
    have s2 := hvs _ (getD_mem kids j 0 (by omega))
    rw [drop_cons keys (j - 1) ByteArray.empty (by omega), drop_cons kids j 0 (by omega)]
    simp only [page_Decode.l1, pairL]
    rw [if_pos (by omega), if_pos (by omega), rtext_fwd _ _ (by omega) (by omega), Option.bind_some, if_pos (by simp; omega), num_fwd _ _ _ (by omega) (by omega), Option.bind_some, if_pos (by simp; omega), wrapu_succ j (by omega), wrap64_nat _ (by omega), ← nat_of _ s2.1]
    have e1 : keys.take (j - 1) ++ [keys.getD (j - 1) ByteArray.empty] = keys.take (j - 1 + 1) := by
      rw [List.take_succ_eq_append_getElem (by omega)]
      simp [List.getD_eq_getElem?_getD, List.getElem?_eq_getElem (show j - 1 < keys.length by omega)]
    have e2 : kids.take j ++ [kids.getD j 0] = kids.take (j + 1) := by
      rw [List.take_succ_eq_append_getElem (by omega)]
      simp [List.getD_eq_getElem?_getD, List.getElem?_eq_getElem (show j < kids.length by omega)]
    rw [e1, e2, show j - 1 + 1 = j + 1 - 1 by omega]
    exact ih (j + 1) k (by omega) (by omega) (by omega)

theorem lens_p {p : PgV} (r : RtP p) : p.keys.length < 90 ∧ p.vals.length < 90 ∧ p.kids.length < 90 := by
  have := r.kind
  by_cases c1 : p.kind = 1
  · obtain ⟨a, b, c, _⟩ := r.k1 c1
    rw [c, b]
    simp
    omega
  · by_cases c2 : p.kind = 2
    · obtain ⟨a, b, c, d, _⟩ := r.k2 c2
      rw [d]
      simp
      omega
    · by_cases c3 : p.kind = 3
      · obtain ⟨a, b, c, _⟩ := r.k3 c3
        rw [a, b, c]
        simp
      · obtain ⟨a, b, c, _⟩ := r.k4 (by omega)
        rw [a, b, c]
        simp

theorem byt_noughts {t : List Int} (h : ∀ x ∈ t, x = 0) : Byt t := fun x hx => by rw [h x hx]; omega

theorem byt_leaf : ∀ (ks vs : List ByteArray) (t : List Int), Byt t → Byt (leafL ks vs t)
  | k :: ks, v :: vs, t, h => by simp only [leafL]; exact byt_text (byt_text (byt_leaf ks vs t h))
  | [], _, t, h => by simpa only [leafL] using h
  | _ :: _, [], t, h => by simpa only [leafL] using h
theorem byt_pair : ∀ (ks : List ByteArray) (ns t : List Int), Byt t → Byt (pairL ks ns t)
  | k :: ks, v :: vs, t, h => by simp only [pairL]; exact byt_text (byt_leb (byt_pair ks vs t h))
  | [], _, t, h => by simpa only [pairL] using h
  | _ :: _, [], t, h => by simpa only [pairL] using h
theorem byt_encP (p : PgV) (m : Nat) (t : List Int) (h : Byt t) : Byt (encP p m t) := by
  unfold encP bodyP innerL
  split
  · exact byt_leb (byt_leb (byt_leb (byt_leaf _ _ _ h)))
  · split
    · split
      · exact byt_leb (byt_leb (byt_leb (byt_leb (byt_pair _ _ _ h))))
      · exact byt_leb (byt_leb (byt_leb h))
    · split
      · exact byt_leb (byt_leb (byt_leb (byt_leb (byt_leb (byt_leb h)))))
      · split
        · exact byt_leb (byt_leb (byt_leb h))
        · exact byt_leb (byt_leb h)

/-- A right page's bytes, and noughts behind them, are that page. -/
theorem dec_fwd_p (k : Nat) (p : PgV) (m : Nat) (t : List Int) (hk : 200 ≤ k) (hr : rightP p = true) (hm : m ≤ 9223372036854775807) (ht : ∀ x ∈ t, x = 0) (hx : (encP p m t).length < 1152921504606846976) :
    page_Decode.f k (encP p m t) = outP p (m : Int) := by
  have r := rtP_of hr
  have hF := fun (k : Nat) (hk : 100 ≤ k) => fin_yes k p m t hk hr ht hx (lens_p r).1 (lens_p r).2.1 (lens_p r).2.2
  have hy := byt_encP p m t (byt_noughts ht)
  have hkd := r.kind
  unfold page_Decode.f num_Read.f
  rw [if_pos (bytB_of hy), Option.bind_some]
  generalize hX : encP p m t = x0 at hF hx hy ⊢
  have hX' := hX
  unfold encP at hX'
  conv => lhs; rw [show (⟨x0, 0⟩ : RdS) = ⟨leb p.kind.toNat ++ (leb m ++ bodyP p t), 0⟩ by rw [hX']]
  rw [num_fwd _ _ _ (by omega) (by omega), Option.bind_some, num_fwd _ _ _ (by omega) (by omega), Option.bind_some, wrap64_nat _ (by omega), ← nat_of _ (by omega)]
  obtain ⟨kind, keys, vals, kids, root, next, size, idle⟩ := p
  obtain ⟨r1, r2, r3, r4, r5, r6⟩ := r
  unfold bodyP
  dsimp only at *
  by_cases c1 : kind = 1
  · obtain ⟨a, b, c, ⟨z1, z2, z3, z4⟩, e⟩ := r3 c1
    subst c1 c z1 z2 z3 z4
    rw [if_pos rfl, if_pos rfl, num_fwd _ _ _ (by omega) (by omega), Option.bind_some]
    exact dec_l0_fwd x0 m keys vals t _ a b (fun s hs => (r1 s hs).2) e hF keys.length 0 k (by omega) (by omega)
  · rw [if_neg c1, if_neg c1]
    by_cases c2 : kind = 2
    · obtain ⟨a, b, c, d, ⟨z1, z2, z3, z4⟩, e⟩ := r4 c2
      subst c2 d z1 z2 z3 z4
      rw [if_pos rfl, if_pos rfl, num_fwd _ _ _ (by omega) (by omega), Option.bind_some]
      have s2 := e _ (getD_mem kids 0 0 (by omega))
      have hd := drop_cons kids 0 0 (by omega)
      rw [List.drop_zero] at hd
      have hi : innerL keys kids t = leb (kids.getD 0 0).toNat ++ pairL keys (kids.drop 1) t := by
        conv => lhs; rw [hd]
        rfl
      rw [hi]
      obtain ⟨k, rfl⟩ : ∃ m, k = m + 1 := ⟨k - 1, by omega⟩
      simp only [page_Decode.l1]
      rw [if_pos (by omega), if_neg (by omega), num_fwd _ _ _ (by omega) (by omega), Option.bind_some, if_pos (by simp), wrap64_nat _ (by omega), ← nat_of _ s2.1]
      have := dec_l1_fwd x0 m keys kids t _ b c (fun s hs => (r1 s hs).2) e hF (kids.length - 1) 1 k (by omega) (by omega) (by omega)
      have e2 : kids.take 1 = [] ++ [kids.getD 0 0] := by
        rw [List.take_succ_eq_append_getElem (by omega)]
        simp [List.getD_eq_getElem?_getD, List.getElem?_eq_getElem (show 0 < kids.length by omega)]
      rw [e2] at this
      have e3 : IntKind.u64.wrap (0 + 1) = ((1 : Nat) : Int) := wrapu_succ 0 (by omega)
      rw [e3]
      exact this
    · rw [if_neg c2, if_neg c2]
      by_cases c3 : kind = 3
      · obtain ⟨z1, z2, z3, q1, q2, q3, q4, q5, q6, q7, q8⟩ := r5 c3
        subst c3 z1 z2 z3
        rw [if_pos rfl, if_pos rfl]
        rw [num_fwd _ _ _ (by omega) (by omega), Option.bind_some, num_fwd _ _ _ (by omega) (by omega), Option.bind_some, num_fwd _ _ _ (by omega) (by omega), Option.bind_some, num_fwd _ _ _ (by omega) (by omega), Option.bind_some]
        rw [wrap64_nat _ (by omega), wrap64_nat _ (by omega), wrap64_nat _ (by omega), wrap64_nat _ (by omega), ← nat_of _ q1, ← nat_of _ q3, ← nat_of _ q5, ← nat_of _ q7]
        exact hF k (by omega)
      · rw [if_neg c3, if_neg c3]
        have c4 : kind = 4 := by omega
        obtain ⟨z1, z2, z3, z4, q1, q2, z5, z6⟩ := r6 c4
        subst c4 z1 z2 z3 z4 z5 z6
        rw [if_pos rfl, if_pos rfl, num_fwd _ _ _ (by omega) (by omega), Option.bind_some, wrap64_nat _ (by omega), ← nat_of _ q1]
        exact hF k (by omega)

/-! ### how long a page's bytes are -/
theorem leaf_len : ∀ (ks vs : List ByteArray), (∀ s ∈ ks, s.size ≤ 24) → (∀ s ∈ vs, s.size ≤ 48) → (leafL ks vs []).length ≤ 74 * ks.length
  | k :: ks, v :: vs, h1, h2 => by
    have := leaf_len ks vs (fun s hs => h1 s (List.mem_cons_of_mem _ hs)) (fun s hs => h2 s (List.mem_cons_of_mem _ hs))
    have a := h1 k (List.mem_cons_self ..)
    have b := h2 v (List.mem_cons_self ..)
    simp only [leafL]
    rw [textL_len k _ 0 (by omega), textL_len v _ 0 (by omega)]
    simp only [List.length_cons]
    omega
  | [], _, _, _ => by simp [leafL]
  | _ :: _, [], _, _ => by simp [leafL]
theorem leb_three {n : Nat} (h : n < 65537) : (leb n).length ≤ 3 := by
  have := leb_length 3 n (by omega)
  omega
theorem pair_len : ∀ (ks : List ByteArray) (ns : List Int), (∀ s ∈ ks, s.size ≤ 24) → (∀ n ∈ ns, 0 ≤ n ∧ n < 65536) → (pairL ks ns []).length ≤ 28 * ks.length
  | k :: ks, n :: ns, h1, h2 => by
    have := pair_len ks ns (fun s hs => h1 s (List.mem_cons_of_mem _ hs)) (fun s hs => h2 s (List.mem_cons_of_mem _ hs))
    have a := h1 k (List.mem_cons_self ..)
    have b := h2 n (List.mem_cons_self ..)
    have c := leb_three (n := n.toNat) (by omega)
    simp only [pairL]
    rw [textL_len k _ 0 (by omega), List.length_append]
    simp only [List.length_cons]
    omega
  | [], _, _, _ => by simp [pairL]
  | _ :: _, [], _, _ => by simp [pairL]
theorem enc_small {p : PgV} (h : rightP p = true) {m : Nat} (hm : m < 18446744073709551616) : (encP p m []).length ≤ 500 := by
  have r := rtP_of h
  have l1 := leb_ten hm
  have hk := r.kind
  have l0 := leb_three (n := p.kind.toNat) (by omega)
  unfold encP bodyP
  simp only [List.length_append]
  split
  · rename_i c
    obtain ⟨a, b, d, _, e⟩ := r.k1 c
    have := leaf_len p.keys p.vals (fun s hs => (r.keys s hs).2) e
    have l2 := leb_three (n := p.keys.length) (by omega)
    rw [List.length_append]
    omega
  · split
    · rename_i c
      obtain ⟨a, b, d, _, _, e⟩ := r.k2 c
      have l2 := leb_three (n := p.kids.length) (by omega)
      rw [List.length_append]
      cases hkd : p.kids with
      | nil => rw [hkd] at a; simp at a
      | cons n ns =>
        rw [hkd] at e b d l2
        have := pair_len p.keys ns (fun s hs => (r.keys s hs).2) (fun n hn => e n (List.mem_cons_of_mem _ hn))
        have l3 := leb_three (n := n.toNat) (by have := e n (List.mem_cons_self ..); omega)
        simp only [innerL, List.length_append]
        simp only [List.length_cons] at b d l2 ⊢
        omega
    · split
      · rename_i c
        obtain ⟨_, _, _, q1, q2, q3, q4, q5, q6, q7, q8⟩ := r.k3 c
        have l2 := leb_three (n := p.root.toNat) (by omega)
        have l3 := leb_three (n := p.next.toNat) (by omega)
        have l4 := leb_three (n := p.size.toNat) (by omega)
        have l5 := leb_three (n := p.idle.toNat) (by omega)
        simp only [List.length_append, List.length_nil]
        omega
      · split
        · rename_i c
          obtain ⟨_, _, _, _, q1, q2, _⟩ := r.k4 c
          have l2 := leb_three (n := p.next.toNat) (by omega)
          simp only [List.length_append, List.length_nil]
          omega
        · simp
          omega

end Go.Proofs.Ytopfaeefhicljaa.Q
