/- Proved: NumBehind answers true: what is laid stands behind what was there, whatever that was; what was there stays. No conditions beyond the given statement's. -/
import Derived.Test.YtolcmjoapnldiaaNum
import Derived.Deep.QuietTactic
import Derived.BigQuiet
import Derived.Deep.RegionHeld3
import Derived.Deep.RegionWith
import Derived.RegionTactic
import Derived.Tactics2
namespace Go.Proofs.Ytolcmjoapnldiaa.NumBehind
open Go Go.RowKit Go.Proofs.Ytolcmjoapnldiaa.Q Go.Proofs.YtolcmjoapnldiaaW.PrintWords Go.Proofs.YtolcmjoapnldiaaW.PrintLast Go.Proofs.Ytolcmjoapnldiaa.Leb Go.Proofs.Ytolcmjoapnldiaa.Str Go.Proofs.Ytolcmjoapnldiaa.Num
set_option linter.unusedVariables false
set_option linter.unusedSimpArgs false

theorem empty_R (W : World) (base : Nat) (h : base ≤ W.heap.size) : Kd.R (Kd.int .u8) 5 (W.alloc (.cells #[] 5)) base (fun k => base ≤ k) (.slice (some ⟨W.heap.size, 0, none⟩) 0 0) [] :=
  Kd.R_of_own (h1 := fun _ => rfl) ⟨rfl, .inr ⟨W.heap.size, 0, #[], rfl, h, heap_alloc_new W _, Nat.le_refl _, by simp [maxLen], rfl, rfl⟩⟩ (fun k hk => by
    simp [Value.ownBlock] at hk
    omega)

/-- What Put and Text lay onto nothing, their lists under names. -/
theorem put_nil' (n : Nat) (h : n < 18446744073709551616) (w : World) :
    Calls Try.prog 16 #[.slice none 0 0, .int .u64 n] w fun e w' => ∃ A c r, e = .returned (.slice A r.length c) ∧ r = leb n ∧ Cs w' A c r ∧ Below w.heap.size w w' :=
  (put_nil n h w).mono fun _ _ ⟨A, c, h1, h2, h3⟩ => ⟨A, c, _, h1, rfl, h2, h3⟩
theorem text_nil' (s : ByteArray) (h : s.size ≤ 1000) (w : World) :
    Calls Try.prog 18 #[.slice none 0 0, .string s] w fun e w' => ∃ A c r, e = .returned (.slice A r.length c) ∧ r = textN s ∧ Cs w' A c r ∧ Below w.heap.size w w' :=
  (text_nil s (by omega) w).mono fun _ _ ⟨A, c, h1, h2, h3⟩ => ⟨A, c, _, h1, rfl, h2, h3⟩

/-- What Put lays behind bytes of one's own. -/
theorem put_own (n : Nat) (h : n < 18446744073709551616) (w0 w : World) (v : Value) (l : List Int) (hB : Below w0.heap.size w0 w) (hR : Kd.R (Kd.int .u8) 5 w w0.heap.size (fun k => w0.heap.size ≤ k) v l) (hl : l.length ≤ 140737488350000) :
    Calls Try.prog 16 #[v, .int .u64 n] w fun e w' => ∃ A c r, e = .returned (.slice A r.length c) ∧ r = l ++ leb n ∧ Cs w' A c r ∧ Below w0.heap.size w0 w' := by
  refine (num_Put.calls 10 _ v l n (l ++ leb n) w0 w hB hR (put_l n 10 l h (by omega) (by omega))).mono ?_
  rintro e w' ⟨v0, rfl, hR, hB, _⟩
  obtain ⟨A, c, rfl, hs⟩ := cs_of hR
  exact ⟨A, c, _, rfl, rfl, hs, hB⟩

theorem text_own (s : ByteArray) (h : s.size ≤ 1000) (w0 w : World) (v : Value) (l : List Int) (hB : Below w0.heap.size w0 w) (hR : Kd.R (Kd.int .u8) 5 w w0.heap.size (fun k => w0.heap.size ≤ k) v l) (hl : l.length ≤ 140737488350000) :
    Calls Try.prog 18 #[v, .string s] w fun e w' => ∃ A c r, e = .returned (.slice A r.length c) ∧ r = l ++ textN s ∧ Cs w' A c r ∧ Below w0.heap.size w0 w' := by
  refine (num_Text.calls 10 _ v l s (l ++ textN s) w0 w hB hR (text_l 10 l s (by omega) (by omega) (by omega))).mono ?_
  rintro e w' ⟨v0, rfl, hR, hB, _⟩
  obtain ⟨A, c, rfl, hs⟩ := cs_of hR
  exact ⟨A, c, _, rfl, rfl, hs, hB⟩

theorem textN_length (s : ByteArray) (h : s.size ≤ 1000) : (textN s).length ≤ 1010 := by
  have := leb_ten (n := s.size) (by omega)
  unfold textN
  rw [List.length_append, bytesOf_length]
  omega
theorem small (l r : List Int) (h : l.length + r.length ≤ 10000) : (strOfNums l).size + (strOfNums r).size ≤ 9223372036854775807 := by
  rw [size_str, size_str]; omega
theorem same (l r r' : List Int) (h : r = l ++ r') : ((strOfNums r).toList == (strOfNums l ++ strOfNums r').toList) = true := by
  rw [h, str_append]; simp

theorem small3 {l r : List Int} {s : ByteArray} {n : Nat} (h : l.length ≤ 100 ∧ s.size ≤ 200) (hn : n < 18446744073709551616) (hr : r = leb n) : (strOfNums l).size + (strOfNums r).size ≤ 9223372036854775807 :=
  small l r (by rw [hr]; have := leb_ten hn; omega)
theorem small4 {l r : List Int} {s : ByteArray} (h : l.length ≤ 100 ∧ s.size ≤ 200) (hr : r = textN s) : (strOfNums l).size + (strOfNums r).size ≤ 9223372036854775807 :=
  small l r (by rw [hr]; have := textN_length s (by omega); omega)

def behind8.T8 : Bool × List (List Nat × List Nat) := (true, [([], []), ([0], [0]), ([], []), ([], []), ([3], [3]), ([4], [4]), ([2, 5], [2, 5]), ([1, 6], [1, 6]), ([7, 4], [7]), ([8], [8]), ([9, 8], [8, 9]), ([8], [8]), ([8], [8]), ([12, 8, 8], [8, 12]), ([13, 8], [8, 13]), ([11, 14, 8], [8, 11, 14]), ([10, 15, 8], [8, 10, 15]), ([8, 16], [8, 16]), ([17, 13], [17]), ([18], [18]), ([19, 18], [18, 19]), ([18], [18]), ([20, 21, 18], [18, 20, 21]), ([18, 22], [18, 22]), ([23, 18, 0, 1, 2, 3, 4, 5, 6, 7, 8, 9, 10, 11, 12, 13, 14, 15, 16, 17, 18, 19, 20, 21, 22, 23], [23])])
def behind8.B8 : List Nat := [0, 1, 0, 0, 8, 24, 60, 127, 255, 511, 1023, 511, 511, 4607, 12799, 31231, 65535, 131071, 262143, 524287, 1048575, 524287, 4194303, 8388607, 16777215]
theorem behind8.tab8 : rtab .any (opsOf Try.f5 8) = behind8.T8 := by kernel_rfl
theorem behind8.bits8 : waitsOk behind8.T8.2 behind8.B8 = true := by kernel_rfl
set_option maxRecDepth 100000 in
set_option maxHeartbeats 4000000 in
theorem law_ok (A : Option Addr) (c : Nat) (l : List Int) (n : Int) (s : ByteArray) (w : World) (hc : l.length ≤ c) (hC : Kd.C (Kd.int .u8) w A l.length l) (hw : ∀ x ∈ l, (Lit.int .u8 x).wf = true) (hn : (Lit.int .u64 n).wf = true) (hs : s.size ≤ 140737488351232) :
    Calls Try.prog 5 #[.slice A l.length c, .int .u64 n, .string s] w fun e w' => e = .returned (.bool true) ∧ Below w.heap.size w w' := by
  have hlm := hC.2.1
  have hy := Aside0.mk (Byt.of_wf hw)
  have hC1 := Aside0.mk hC
  have hc1 := Aside0.mk hc
  have hnb := bounds_u64 hn
  obtain ⟨n, rfl⟩ := Int.eq_ofNat_of_zero_le hnb.1
  have hn1 := Aside0.mk (show n < 18446744073709551616 by omega)
  have hs1 : s.size ≤ 9223372036854775807 := by omega
  clear hw hC hc hn hnb hs
  by_cases hl : l.length ≤ 100 ∧ s.size ≤ 200
  · have t1 : decide ((100 : Int) < (l.length : Int)) = false := decide_eq_false (by omega)
    have t2 : decide ((200 : Int) < (s.size : Int)) = false := decide_eq_false (by omega)
    have t3 : decide (100 < l.length) = false := decide_eq_false (by omega)
    have t4 : decide (200 < s.size) = false := decide_eq_false (by omega)
    have hl1 := Aside0.mk hl
    clear hl hs1
    have cv := (fun W (hW : Below w.heap.size w W) => by
      have := conv_take hC1.out hW c (Nat.le_refl _)
      rw [List.take_length] at this
      exact this : ∀ W, Below w.heap.size w W → (convert 24 9 (.slice A l.length c)).run Try.prog W = .ok (.string (strOfNums l)) W)
    have cv1 := Aside0.mk cv
    clear cv
    go_enter Try.func5, Try.ntmps5
    go_wp2_with fail
    refine (head_ok _).mono ?_
    rintro e w1 ⟨rfl, hb1⟩
    have HB := Aside0.mk hb1
    have cva := cv1.out _ hb1
    clear hb1
    go_wp2_with (at_builtin; refine Kd.R_append_rows (Kd.int .u8) (w0 := w1) w1.heap.size rfl (.tmp 22) (.tmp 23) 24 5 (.int .u8 0) 1 rfl Try.underlying24 info5 rfl (by decide) (by omega) _ [] l A l.length c (fun k => w1.heap.size ≤ k) (fun _ => False) rfl rfl (empty_R w1 _ (Nat.le_refl _)) (Kd.C_below hC1.out (below_alloc HB.out _)) (fun _ _ h => h) (fun _ h => h.elim) (fun k hk => Nat.le_trans (below_alloc (Below.refl _ _) _).size hk) (below_alloc (Below.refl _ _) _) (below_alloc (Below.refl _ _) _).size (by have := hl1.out; simp; omega) ?_; intro v2 w2 hR hb _ _; have R2 := Aside0.mk hR; have HB2 := Aside0.mk hb; clear hR hb)
    refine (put_own n hn1.out w1 _ _ _ HB2.out R2.out (by have := hl1.out; simp; omega)).mono ?_
    rintro e w3 ⟨A1, c1, r1, rfl, hr1, hp, hb⟩
    have P1 := Aside0.mk hp
    have E1 := Aside0.mk hr1
    have HB3 := Aside0.mk (below_step HB.out hb)
    clear hp hb R2 HB2 HB hr1
    go_wp2_with (at_builtin; refine Kd.R_append_rows (Kd.int .u8) (w0 := w3) w3.heap.size rfl (.tmp 27) (.tmp 28) 24 5 (.int .u8 0) 1 rfl Try.underlying24 info5 rfl (by decide) (by omega) _ [] l A l.length c (fun k => w3.heap.size ≤ k) (fun _ => False) rfl rfl (empty_R w3 _ (Nat.le_refl _)) (Kd.C_below hC1.out (below_alloc HB3.out _)) (fun _ _ h => h) (fun _ h => h.elim) (fun k hk => Nat.le_trans (below_alloc (Below.refl _ _) _).size hk) (below_alloc (Below.refl _ _) _) (below_alloc (Below.refl _ _) _).size (by have := hl1.out; simp; omega) ?_; intro v4 w4 hR hb _ _; have R4 := Aside0.mk hR; have HB4 := Aside0.mk hb; clear hR hb)
    refine (text_own s (by have := hl1.out; omega) w3 _ _ _ HB4.out R4.out (by have := hl1.out; simp; omega)).mono ?_
    rintro e w5 ⟨A2, c2, r2, rfl, hr2, hp, hb⟩
    have Q1 := Aside0.mk (P1.out.step hb)
    have Q2 := Aside0.mk hp
    have E2 := Aside0.mk hr2
    have HB5 := Aside0.mk (below_step HB3.out hb)
    clear hp hb R4 HB4 HB3 hr2 P1 cva
    go_wp2
    refine start_ (n := 25) (S := fun w' => True) (ds := []) #[false, false, false, false, false, false, false, false, false, false, false, false, false, false, false, false, false, false, false, false, false, false, false, false, false] (by kernel_rfl) rfl rfl trivial (fun hHeld => ?_)
    refine with_tabW behind8.tab8 behind8.bits8 (fun HT_ HW_ => ?_)
    have n0 := Aside0.mk (below_drew HB5.out)
    have n1 := Aside0.mk (Q1.out.step (below_drew (Below.refl _ _)))
    have n2 := Aside0.mk (Q2.out.step (below_drew (Below.refl _ _)))
    clear HB5 Q1 Q2
    generalize w5.drew = wd at n0 n1 n2 hHeld ⊢
    have HB := n0
    have Q1 := n1
    have Q2 := n2
    clear n0 n1 n2 hHeld
    refine inv_at [0, 1, 2, 3, 4, 5, 6, 7, 8, 9, 10, 11, 12, 13, 14, 15, 16, 17, 18, 19, 20, 21, 22, 23, 24] (fun a0_ b a w' => ∃ (A3 : Option Addr) (c3 : Nat) (r3 : List Int) (A4 : Option Addr) (c4 : Nat) (r4 : List Int) (m4_ : Value) (m5_ : Value) (m6_ : Value) (m13_ : Value) (m14_ : Value) (m15_ : Value), a = putSel a0_ b [(0, 32, .slice A1 r1.length c1), (1, 33, .string (strOfNums r1)), (2, 34, .string (strOfNums l)), (3, 35, .int .u64 (n : Int)), (4, 36, m4_), (5, 37, m5_), (6, 38, m6_), (7, 39, .bool true), (8, 40, .bool true), (9, 41, .slice A2 r2.length c2), (10, 42, .string (strOfNums r2)), (11, 43, .string (strOfNums l)), (12, 44, .string s), (13, 45, m13_), (14, 46, m14_), (15, 47, m15_), (16, 48, .bool true), (17, 49, .bool true), (18, 50, .bool true), (19, 51, .slice A l.length c), (20, 52, .string (strOfNums l)), (21, 53, .string (strOfNums l)), (22, 54, .bool true), (23, 55, .bool true), (24, 6, .bool true)] ∧ (Below w.heap.size w w') ∧ (Cs w' A1 c1 r1) ∧ (Cs w' A2 c2 r2) ∧ (b 4 = true → Cs w' A3 c3 r3) ∧ (b 13 = true → Cs w' A4 c4 r4) ∧ (b 4 = true → r3 = leb n) ∧ (b 13 = true → r4 = textN s) ∧ (b 4 = true → (m4_ : Value) = .slice A3 r3.length c3) ∧ (b 5 = true → (m5_ : Value) = .string (strOfNums r3)) ∧ (b 6 = true → (m6_ : Value) = .string (strOfNums l ++ strOfNums r3)) ∧ (b 13 = true → (m13_ : Value) = .slice A4 r4.length c4) ∧ (b 14 = true → (m14_ : Value) = .string (strOfNums r4)) ∧ (b 15 = true → (m15_ : Value) = .string (strOfNums l ++ strOfNums r4))) HT_.out HW_.out (by kernel_rfl) (by kernel_rfl) ?_ ?_ ?_
    · exact ⟨none, 0, [], none, 0, [], .bool false, .bool false, .bool false, .bool false, .bool false, .bool false, by simp only [putSel, Bool.false_eq_true, if_false], HB.out, Q1.out, Q2.out, fun h_ => absurd h_ (by decide), fun h_ => absurd h_ (by decide), fun h_ => absurd h_ (by decide), fun h_ => absurd h_ (by decide), fun h_ => absurd h_ (by decide), fun h_ => absurd h_ (by decide), fun h_ => absurd h_ (by decide), fun h_ => absurd h_ (by decide), fun h_ => absurd h_ (by decide), fun h_ => absurd h_ (by decide)⟩
    · skip
      clear HB Q1 Q2
      refine steps_cons ?_ ?_
      · rintro b a w' ⟨A3, c3, r3, A4, c4, r4, m4_, m5_, m6_, m13_, m14_, m15_, ha, Q_HB, Q_Q1, Q_Q2, Q_Q3, Q_Q4, Q_E3, Q_E4, Q_X4_, Q_X5_, Q_X6_, Q_X13_, Q_X14_, Q_X15_⟩ hb_ hon hoff
        refine ⟨_, rfl, fun K hK => ?_⟩
        have e8 : a.tmps[8]? = some (.slice A1 r1.length c1) := by rw [ha]; exact (putSel_off rfl).trans rfl
        replace ha := Aside0.mk ha
        have HB := Aside0.mk Q_HB
        have Q1 := Aside0.mk Q_Q1
        have Q2 := Aside0.mk Q_Q2
        refine value_ (w1 := w') (v := .slice A1 r1.length c1) (by rfl) rfl ?_ ?_
        · go_simp
          (try simp only [i64_w])
          try rfl
        refine hK.out _ _ ⟨A3, c3, r3, A4, c4, r4, m4_, m5_, m6_, m13_, m14_, m15_, (by rw [ha.out]; exact putSel_upk 0 hb_ rfl rfl rfl), Q_HB, Q_Q1, Q_Q2, Q_Q3, fun h0_ => absurd ((hoff 13 (by kernel_rfl)).symm.trans h0_) (by decide), Q_E3, fun h0_ => absurd ((hoff 13 (by kernel_rfl)).symm.trans h0_) (by decide), Q_X4_, Q_X5_, Q_X6_, fun h0_ => absurd ((hoff 13 (by kernel_rfl)).symm.trans h0_) (by decide), fun h0_ => absurd ((hoff 14 (by kernel_rfl)).symm.trans h0_) (by decide), fun h0_ => absurd ((hoff 15 (by kernel_rfl)).symm.trans h0_) (by decide)⟩
      refine steps_cons ?_ ?_
      · rintro b a w' ⟨A3, c3, r3, A4, c4, r4, m4_, m5_, m6_, m13_, m14_, m15_, ha, Q_HB, Q_Q1, Q_Q2, Q_Q3, Q_Q4, Q_E3, Q_E4, Q_X4_, Q_X5_, Q_X6_, Q_X13_, Q_X14_, Q_X15_⟩ hb_ hon hoff
        refine ⟨_, rfl, fun K hK => ?_⟩
        have e32 : a.tmps[32]? = some (.slice A1 r1.length c1) := by rw [ha]; exact putSel_on (e := (0, 32, .slice A1 r1.length c1)) 0 rfl rfl (hon 0 (by kernel_rfl)) rfl
        replace ha := Aside0.mk ha
        have HB := Aside0.mk Q_HB
        have Q1 := Aside0.mk Q_Q1
        have Q2 := Aside0.mk Q_Q2
        have hcv_ := Q1.out.conv (Below.refl _ _)
        refine value_ (w1 := w') (v := .string (strOfNums r1)) (by rfl) rfl ?_ ?_
        · go_simp
          (try simp only [i64_w])
          try rfl
        refine hK.out _ _ ⟨A3, c3, r3, A4, c4, r4, m4_, m5_, m6_, m13_, m14_, m15_, (by rw [ha.out]; exact putSel_upk 1 hb_ rfl rfl rfl), Q_HB, Q_Q1, Q_Q2, Q_Q3, fun h0_ => absurd ((hoff 13 (by kernel_rfl)).symm.trans h0_) (by decide), Q_E3, fun h0_ => absurd ((hoff 13 (by kernel_rfl)).symm.trans h0_) (by decide), Q_X4_, Q_X5_, Q_X6_, fun h0_ => absurd ((hoff 13 (by kernel_rfl)).symm.trans h0_) (by decide), fun h0_ => absurd ((hoff 14 (by kernel_rfl)).symm.trans h0_) (by decide), fun h0_ => absurd ((hoff 15 (by kernel_rfl)).symm.trans h0_) (by decide)⟩
      refine steps_cons ?_ ?_
      · rintro b a w' ⟨A3, c3, r3, A4, c4, r4, m4_, m5_, m6_, m13_, m14_, m15_, ha, Q_HB, Q_Q1, Q_Q2, Q_Q3, Q_Q4, Q_E3, Q_E4, Q_X4_, Q_X5_, Q_X6_, Q_X13_, Q_X14_, Q_X15_⟩ hb_ hon hoff
        refine ⟨_, rfl, fun K hK => ?_⟩
        have e7 : a.tmps[7]? = some (.string (strOfNums l)) := by rw [ha]; exact (putSel_off rfl).trans rfl
        replace ha := Aside0.mk ha
        have HB := Aside0.mk Q_HB
        have Q1 := Aside0.mk Q_Q1
        have Q2 := Aside0.mk Q_Q2
        refine value_ (w1 := w') (v := .string (strOfNums l)) (by rfl) rfl ?_ ?_
        · go_simp
          (try simp only [i64_w])
          try rfl
        refine hK.out _ _ ⟨A3, c3, r3, A4, c4, r4, m4_, m5_, m6_, m13_, m14_, m15_, (by rw [ha.out]; exact putSel_upk 2 hb_ rfl rfl rfl), Q_HB, Q_Q1, Q_Q2, Q_Q3, fun h0_ => absurd ((hoff 13 (by kernel_rfl)).symm.trans h0_) (by decide), Q_E3, fun h0_ => absurd ((hoff 13 (by kernel_rfl)).symm.trans h0_) (by decide), Q_X4_, Q_X5_, fun h0_ => absurd ((hoff 6 (by kernel_rfl)).symm.trans h0_) (by decide), fun h0_ => absurd ((hoff 13 (by kernel_rfl)).symm.trans h0_) (by decide), fun h0_ => absurd ((hoff 14 (by kernel_rfl)).symm.trans h0_) (by decide), fun h0_ => absurd ((hoff 15 (by kernel_rfl)).symm.trans h0_) (by decide)⟩
      refine steps_cons ?_ ?_
      · rintro b a w' ⟨A3, c3, r3, A4, c4, r4, m4_, m5_, m6_, m13_, m14_, m15_, ha, Q_HB, Q_Q1, Q_Q2, Q_Q3, Q_Q4, Q_E3, Q_E4, Q_X4_, Q_X5_, Q_X6_, Q_X13_, Q_X14_, Q_X15_⟩ hb_ hon hoff
        refine ⟨_, rfl, fun K hK => ?_⟩
        have e1 : a.tmps[1]? = some (.int .u64 (n : Int)) := by rw [ha]; exact (putSel_off rfl).trans rfl
        replace ha := Aside0.mk ha
        have HB := Aside0.mk Q_HB
        have Q1 := Aside0.mk Q_Q1
        have Q2 := Aside0.mk Q_Q2
        refine value_ (w1 := w') (v := .int .u64 (n : Int)) (by rfl) rfl ?_ ?_
        · go_simp
          (try simp only [i64_w])
          try rfl
        refine hK.out _ _ ⟨A3, c3, r3, A4, c4, r4, m4_, m5_, m6_, m13_, m14_, m15_, (by rw [ha.out]; exact putSel_upk 3 hb_ rfl rfl rfl), Q_HB, Q_Q1, Q_Q2, fun h0_ => absurd ((hoff 4 (by kernel_rfl)).symm.trans h0_) (by decide), fun h0_ => absurd ((hoff 13 (by kernel_rfl)).symm.trans h0_) (by decide), fun h0_ => absurd ((hoff 4 (by kernel_rfl)).symm.trans h0_) (by decide), fun h0_ => absurd ((hoff 13 (by kernel_rfl)).symm.trans h0_) (by decide), fun h0_ => absurd ((hoff 4 (by kernel_rfl)).symm.trans h0_) (by decide), fun h0_ => absurd ((hoff 5 (by kernel_rfl)).symm.trans h0_) (by decide), fun h0_ => absurd ((hoff 6 (by kernel_rfl)).symm.trans h0_) (by decide), fun h0_ => absurd ((hoff 13 (by kernel_rfl)).symm.trans h0_) (by decide), fun h0_ => absurd ((hoff 14 (by kernel_rfl)).symm.trans h0_) (by decide), fun h0_ => absurd ((hoff 15 (by kernel_rfl)).symm.trans h0_) (by decide)⟩
      refine steps_cons ?_ ?_
      · rintro b a w' ⟨A3, c3, r3, A4, c4, r4, m4_, m5_, m6_, m13_, m14_, m15_, ha, Q_HB, Q_Q1, Q_Q2, Q_Q3, Q_Q4, Q_E3, Q_E4, Q_X4_, Q_X5_, Q_X6_, Q_X13_, Q_X14_, Q_X15_⟩ hb_ hon hoff
        refine ⟨_, rfl, fun K hK => ?_⟩
        have e35 : a.tmps[35]? = some (.int .u64 (n : Int)) := by rw [ha]; exact putSel_on (e := (3, 35, .int .u64 (n : Int))) 3 rfl rfl (hon 3 (by kernel_rfl)) rfl
        replace ha := Aside0.mk ha
        have HB := Aside0.mk Q_HB
        have Q1 := Aside0.mk Q_Q1
        have Q2 := Aside0.mk Q_Q2
        refine goes_ Try.func16 (by kernel_rfl) rfl #[.slice none 0 0, .int .u64 (n : Int)] (by rfl) rfl rfl (by first | (simp only [List.map_toArray, List.map_cons, List.map_nil, Act.eval, Array.getD_eq_getD_getElem?, Option.getD_some, e35]; done) | (simp only [List.map_toArray, List.map_cons, List.map_nil, Act.eval, Array.getD_eq_getD_getElem?, Option.getD_some, e35]; rfl)) ?_
        refine (put_nil' n hn1.out _).mono ?_
        rintro e_ wn_ ⟨An_, cn_, rn_, rfl, hr_, hp_, hB_⟩
        refine ⟨_, rfl, ?_⟩
        refine hK.out _ _ ⟨An_, cn_, rn_, A4, c4, r4, (.slice An_ rn_.length cn_), m5_, m6_, m13_, m14_, m15_, (by rw [ha.out]; exact putSel_upk 4 hb_ rfl rfl rfl), (below_step HB.out hB_), (Q1.out.step hB_), (Q2.out.step hB_), fun _ => hp_, fun h0_ => absurd ((hoff 13 (by kernel_rfl)).symm.trans h0_) (by decide), fun _ => hr_, fun h0_ => absurd ((hoff 13 (by kernel_rfl)).symm.trans h0_) (by decide), fun _ => rfl, fun h0_ => absurd ((hoff 5 (by kernel_rfl)).symm.trans h0_) (by decide), fun h0_ => absurd ((hoff 6 (by kernel_rfl)).symm.trans h0_) (by decide), fun h0_ => absurd ((hoff 13 (by kernel_rfl)).symm.trans h0_) (by decide), fun h0_ => absurd ((hoff 14 (by kernel_rfl)).symm.trans h0_) (by decide), fun h0_ => absurd ((hoff 15 (by kernel_rfl)).symm.trans h0_) (by decide)⟩
      refine steps_cons ?_ ?_
      · rintro b a w' ⟨A3, c3, r3, A4, c4, r4, m4_, m5_, m6_, m13_, m14_, m15_, ha, Q_HB, Q_Q1, Q_Q2, Q_Q3, Q_Q4, Q_E3, Q_E4, Q_X4_, Q_X5_, Q_X6_, Q_X13_, Q_X14_, Q_X15_⟩ hb_ hon hoff
        refine ⟨_, rfl, fun K hK => ?_⟩
        have e36 : a.tmps[36]? = some (m4_) := by rw [ha]; exact putSel_on (e := (4, 36, m4_)) 4 rfl rfl (hon 4 (by kernel_rfl)) rfl
        rw [Q_X4_ (hon 4 (by kernel_rfl))] at e36
        replace ha := Aside0.mk ha
        have HB := Aside0.mk Q_HB
        have Q1 := Aside0.mk Q_Q1
        have Q2 := Aside0.mk Q_Q2
        have Q3 := Aside0.mk (Q_Q3 (hon 4 (by kernel_rfl)))
        have E3 := Aside0.mk (Q_E3 (hon 4 (by kernel_rfl)))
        have hcv_ := Q3.out.conv (Below.refl _ _)
        refine value_ (w1 := w') (v := .string (strOfNums r3)) (by rfl) rfl ?_ ?_
        · go_simp
          (try simp only [i64_w])
          try rfl
        refine hK.out _ _ ⟨A3, c3, r3, A4, c4, r4, m4_, (.string (strOfNums r3)), m6_, m13_, m14_, m15_, (by rw [ha.out]; exact putSel_upk 5 hb_ rfl rfl rfl), Q_HB, Q_Q1, Q_Q2, Q_Q3, fun h0_ => absurd ((hoff 13 (by kernel_rfl)).symm.trans h0_) (by decide), Q_E3, fun h0_ => absurd ((hoff 13 (by kernel_rfl)).symm.trans h0_) (by decide), Q_X4_, fun _ => rfl, fun h0_ => absurd ((hoff 6 (by kernel_rfl)).symm.trans h0_) (by decide), fun h0_ => absurd ((hoff 13 (by kernel_rfl)).symm.trans h0_) (by decide), fun h0_ => absurd ((hoff 14 (by kernel_rfl)).symm.trans h0_) (by decide), fun h0_ => absurd ((hoff 15 (by kernel_rfl)).symm.trans h0_) (by decide)⟩
      refine steps_cons ?_ ?_
      · rintro b a w' ⟨A3, c3, r3, A4, c4, r4, m4_, m5_, m6_, m13_, m14_, m15_, ha, Q_HB, Q_Q1, Q_Q2, Q_Q3, Q_Q4, Q_E3, Q_E4, Q_X4_, Q_X5_, Q_X6_, Q_X13_, Q_X14_, Q_X15_⟩ hb_ hon hoff
        refine ⟨_, rfl, fun K hK => ?_⟩
        have e34 : a.tmps[34]? = some (.string (strOfNums l)) := by rw [ha]; exact putSel_on (e := (2, 34, .string (strOfNums l))) 2 rfl rfl (hon 2 (by kernel_rfl)) rfl
        have e37 : a.tmps[37]? = some (m5_) := by rw [ha]; exact putSel_on (e := (5, 37, m5_)) 5 rfl rfl (hon 5 (by kernel_rfl)) rfl
        rw [Q_X5_ (hon 5 (by kernel_rfl))] at e37
        replace ha := Aside0.mk ha
        have HB := Aside0.mk Q_HB
        have Q1 := Aside0.mk Q_Q1
        have Q2 := Aside0.mk Q_Q2
        have Q3 := Aside0.mk (Q_Q3 (hon 4 (by kernel_rfl)))
        have E3 := Aside0.mk (Q_E3 (hon 4 (by kernel_rfl)))
        have hs_ := small3 hl1.out hn1.out E3.out
        have hs2_ := eq_true hs_
        have hs3_ := eq_false (Nat.not_lt.2 hs_)
        refine value_ (w1 := w') (v := .string (strOfNums l ++ strOfNums r3)) (by rfl) rfl ?_ ?_
        · go_simp
          (try simp only [i64_w])
          try rfl
        refine hK.out _ _ ⟨A3, c3, r3, A4, c4, r4, m4_, m5_, (.string (strOfNums l ++ strOfNums r3)), m13_, m14_, m15_, (by rw [ha.out]; exact putSel_upk 6 hb_ rfl rfl rfl), Q_HB, Q_Q1, Q_Q2, Q_Q3, fun h0_ => absurd ((hoff 13 (by kernel_rfl)).symm.trans h0_) (by decide), Q_E3, fun h0_ => absurd ((hoff 13 (by kernel_rfl)).symm.trans h0_) (by decide), Q_X4_, Q_X5_, fun _ => rfl, fun h0_ => absurd ((hoff 13 (by kernel_rfl)).symm.trans h0_) (by decide), fun h0_ => absurd ((hoff 14 (by kernel_rfl)).symm.trans h0_) (by decide), fun h0_ => absurd ((hoff 15 (by kernel_rfl)).symm.trans h0_) (by decide)⟩
      refine steps_cons ?_ ?_
      · rintro b a w' ⟨A3, c3, r3, A4, c4, r4, m4_, m5_, m6_, m13_, m14_, m15_, ha, Q_HB, Q_Q1, Q_Q2, Q_Q3, Q_Q4, Q_E3, Q_E4, Q_X4_, Q_X5_, Q_X6_, Q_X13_, Q_X14_, Q_X15_⟩ hb_ hon hoff
        refine ⟨_, rfl, fun K hK => ?_⟩
        have e33 : a.tmps[33]? = some (.string (strOfNums r1)) := by rw [ha]; exact putSel_on (e := (1, 33, .string (strOfNums r1))) 1 rfl rfl (hon 1 (by kernel_rfl)) rfl
        have e38 : a.tmps[38]? = some (m6_) := by rw [ha]; exact putSel_on (e := (6, 38, m6_)) 6 rfl rfl (hon 6 (by kernel_rfl)) rfl
        rw [Q_X6_ (hon 6 (by kernel_rfl))] at e38
        replace ha := Aside0.mk ha
        have HB := Aside0.mk Q_HB
        have Q1 := Aside0.mk Q_Q1
        have Q2 := Aside0.mk Q_Q2
        have Q3 := Aside0.mk (Q_Q3 (hon 4 (by kernel_rfl)))
        have E3 := Aside0.mk (Q_E3 (hon 4 (by kernel_rfl)))
        have ht_ := same l r1 r3 (by rw [E1.out, E3.out]; rfl)
        refine value_ (w1 := w') (v := .bool true) (by rfl) rfl ?_ ?_
        · go_simp
          (try simp only [i64_w])
          try rfl
        refine hK.out _ _ ⟨A3, c3, r3, A4, c4, r4, m4_, m5_, m6_, m13_, m14_, m15_, (by rw [ha.out]; exact putSel_upk 7 hb_ rfl rfl rfl), Q_HB, Q_Q1, Q_Q2, Q_Q3, fun h0_ => absurd ((hoff 13 (by kernel_rfl)).symm.trans h0_) (by decide), Q_E3, fun h0_ => absurd ((hoff 13 (by kernel_rfl)).symm.trans h0_) (by decide), Q_X4_, Q_X5_, Q_X6_, fun h0_ => absurd ((hoff 13 (by kernel_rfl)).symm.trans h0_) (by decide), fun h0_ => absurd ((hoff 14 (by kernel_rfl)).symm.trans h0_) (by decide), fun h0_ => absurd ((hoff 15 (by kernel_rfl)).symm.trans h0_) (by decide)⟩
      refine steps_cons ?_ ?_
      · rintro b a w' ⟨A3, c3, r3, A4, c4, r4, m4_, m5_, m6_, m13_, m14_, m15_, ha, Q_HB, Q_Q1, Q_Q2, Q_Q3, Q_Q4, Q_E3, Q_E4, Q_X4_, Q_X5_, Q_X6_, Q_X13_, Q_X14_, Q_X15_⟩ hb_ hon hoff
        refine ⟨_, rfl, fun K hK => ?_⟩
        have e39 : a.tmps[39]? = some (.bool true) := by rw [ha]; exact putSel_on (e := (7, 39, .bool true)) 7 rfl rfl (hon 7 (by kernel_rfl)) rfl
        replace ha := Aside0.mk ha
        have HB := Aside0.mk Q_HB
        have Q1 := Aside0.mk Q_Q1
        have Q2 := Aside0.mk Q_Q2
        have Q3 := Aside0.mk (Q_Q3 (hon 4 (by kernel_rfl)))
        have E3 := Aside0.mk (Q_E3 (hon 4 (by kernel_rfl)))
        refine value_ (w1 := w') (v := .bool true) (by rfl) rfl ?_ ?_
        · go_simp
          (try simp only [i64_w])
          try rfl
        refine hK.out _ _ ⟨A3, c3, r3, A4, c4, r4, m4_, m5_, m6_, m13_, m14_, m15_, (by rw [ha.out]; exact putSel_upk 8 hb_ rfl rfl rfl), Q_HB, Q_Q1, Q_Q2, Q_Q3, fun h0_ => absurd ((hoff 13 (by kernel_rfl)).symm.trans h0_) (by decide), Q_E3, fun h0_ => absurd ((hoff 13 (by kernel_rfl)).symm.trans h0_) (by decide), Q_X4_, Q_X5_, Q_X6_, fun h0_ => absurd ((hoff 13 (by kernel_rfl)).symm.trans h0_) (by decide), fun h0_ => absurd ((hoff 14 (by kernel_rfl)).symm.trans h0_) (by decide), fun h0_ => absurd ((hoff 15 (by kernel_rfl)).symm.trans h0_) (by decide)⟩
      refine steps_cons ?_ ?_
      · rintro b a w' ⟨A3, c3, r3, A4, c4, r4, m4_, m5_, m6_, m13_, m14_, m15_, ha, Q_HB, Q_Q1, Q_Q2, Q_Q3, Q_Q4, Q_E3, Q_E4, Q_X4_, Q_X5_, Q_X6_, Q_X13_, Q_X14_, Q_X15_⟩ hb_ hon hoff
        refine ⟨_, rfl, fun K hK => ?_⟩
        have e9 : a.tmps[9]? = some (.slice A2 r2.length c2) := by rw [ha]; exact (putSel_off rfl).trans rfl
        have e40 : a.tmps[40]? = some (.bool true) := by rw [ha]; exact putSel_on (e := (8, 40, .bool true)) 8 rfl rfl (hon 8 (by kernel_rfl)) rfl
        replace ha := Aside0.mk ha
        have HB := Aside0.mk Q_HB
        have Q1 := Aside0.mk Q_Q1
        have Q2 := Aside0.mk Q_Q2
        have Q3 := Aside0.mk (Q_Q3 (hon 4 (by kernel_rfl)))
        have E3 := Aside0.mk (Q_E3 (hon 4 (by kernel_rfl)))
        refine value_ (w1 := w') (v := .slice A2 r2.length c2) (wanted_on rfl rfl rfl (e40.trans (by first | rfl | (simp [*]; done)))) rfl ?_ ?_
        · go_simp
          (try simp only [i64_w])
          try rfl
        refine hK.out _ _ ⟨A3, c3, r3, A4, c4, r4, m4_, m5_, m6_, m13_, m14_, m15_, (by rw [ha.out]; exact putSel_upk 9 hb_ rfl rfl rfl), Q_HB, Q_Q1, Q_Q2, Q_Q3, Q_Q4, Q_E3, Q_E4, Q_X4_, Q_X5_, Q_X6_, Q_X13_, Q_X14_, Q_X15_⟩
      refine steps_cons ?_ ?_
      · rintro b a w' ⟨A3, c3, r3, A4, c4, r4, m4_, m5_, m6_, m13_, m14_, m15_, ha, Q_HB, Q_Q1, Q_Q2, Q_Q3, Q_Q4, Q_E3, Q_E4, Q_X4_, Q_X5_, Q_X6_, Q_X13_, Q_X14_, Q_X15_⟩ hb_ hon hoff
        refine ⟨_, rfl, fun K hK => ?_⟩
        have e41 : a.tmps[41]? = some (.slice A2 r2.length c2) := by rw [ha]; exact putSel_on (e := (9, 41, .slice A2 r2.length c2)) 9 rfl rfl (hon 9 (by kernel_rfl)) rfl
        have e40 : a.tmps[40]? = some (.bool true) := by rw [ha]; exact putSel_on (e := (8, 40, .bool true)) 8 rfl rfl (hon 8 (by kernel_rfl)) rfl
        replace ha := Aside0.mk ha
        have HB := Aside0.mk Q_HB
        have Q1 := Aside0.mk Q_Q1
        have Q2 := Aside0.mk Q_Q2
        have Q3 := Aside0.mk (Q_Q3 (hon 4 (by kernel_rfl)))
        have E3 := Aside0.mk (Q_E3 (hon 4 (by kernel_rfl)))
        have hcv_ := Q2.out.conv (Below.refl _ _)
        refine value_ (w1 := w') (v := .string (strOfNums r2)) (wanted_on rfl rfl rfl (e40.trans (by first | rfl | (simp [*]; done)))) rfl ?_ ?_
        · go_simp
          (try simp only [i64_w])
          try rfl
        refine hK.out _ _ ⟨A3, c3, r3, A4, c4, r4, m4_, m5_, m6_, m13_, m14_, m15_, (by rw [ha.out]; exact putSel_upk 10 hb_ rfl rfl rfl), Q_HB, Q_Q1, Q_Q2, Q_Q3, Q_Q4, Q_E3, Q_E4, Q_X4_, Q_X5_, Q_X6_, Q_X13_, Q_X14_, Q_X15_⟩
      refine steps_cons ?_ ?_
      · rintro b a w' ⟨A3, c3, r3, A4, c4, r4, m4_, m5_, m6_, m13_, m14_, m15_, ha, Q_HB, Q_Q1, Q_Q2, Q_Q3, Q_Q4, Q_E3, Q_E4, Q_X4_, Q_X5_, Q_X6_, Q_X13_, Q_X14_, Q_X15_⟩ hb_ hon hoff
        refine ⟨_, rfl, fun K hK => ?_⟩
        have e7 : a.tmps[7]? = some (.string (strOfNums l)) := by rw [ha]; exact (putSel_off rfl).trans rfl
        have e40 : a.tmps[40]? = some (.bool true) := by rw [ha]; exact putSel_on (e := (8, 40, .bool true)) 8 rfl rfl (hon 8 (by kernel_rfl)) rfl
        replace ha := Aside0.mk ha
        have HB := Aside0.mk Q_HB
        have Q1 := Aside0.mk Q_Q1
        have Q2 := Aside0.mk Q_Q2
        have Q3 := Aside0.mk (Q_Q3 (hon 4 (by kernel_rfl)))
        have E3 := Aside0.mk (Q_E3 (hon 4 (by kernel_rfl)))
        refine value_ (w1 := w') (v := .string (strOfNums l)) (wanted_on rfl rfl rfl (e40.trans (by first | rfl | (simp [*]; done)))) rfl ?_ ?_
        · go_simp
          (try simp only [i64_w])
          try rfl
        refine hK.out _ _ ⟨A3, c3, r3, A4, c4, r4, m4_, m5_, m6_, m13_, m14_, m15_, (by rw [ha.out]; exact putSel_upk 11 hb_ rfl rfl rfl), Q_HB, Q_Q1, Q_Q2, Q_Q3, Q_Q4, Q_E3, Q_E4, Q_X4_, Q_X5_, Q_X6_, Q_X13_, Q_X14_, fun h0_ => absurd ((hoff 15 (by kernel_rfl)).symm.trans h0_) (by decide)⟩
      refine steps_cons ?_ ?_
      · rintro b a w' ⟨A3, c3, r3, A4, c4, r4, m4_, m5_, m6_, m13_, m14_, m15_, ha, Q_HB, Q_Q1, Q_Q2, Q_Q3, Q_Q4, Q_E3, Q_E4, Q_X4_, Q_X5_, Q_X6_, Q_X13_, Q_X14_, Q_X15_⟩ hb_ hon hoff
        refine ⟨_, rfl, fun K hK => ?_⟩
        have e2 : a.tmps[2]? = some (.string s) := by rw [ha]; exact (putSel_off rfl).trans rfl
        have e40 : a.tmps[40]? = some (.bool true) := by rw [ha]; exact putSel_on (e := (8, 40, .bool true)) 8 rfl rfl (hon 8 (by kernel_rfl)) rfl
        replace ha := Aside0.mk ha
        have HB := Aside0.mk Q_HB
        have Q1 := Aside0.mk Q_Q1
        have Q2 := Aside0.mk Q_Q2
        have Q3 := Aside0.mk (Q_Q3 (hon 4 (by kernel_rfl)))
        have E3 := Aside0.mk (Q_E3 (hon 4 (by kernel_rfl)))
        refine value_ (w1 := w') (v := .string s) (wanted_on rfl rfl rfl (e40.trans (by first | rfl | (simp [*]; done)))) rfl ?_ ?_
        · go_simp
          (try simp only [i64_w])
          try rfl
        refine hK.out _ _ ⟨A3, c3, r3, A4, c4, r4, m4_, m5_, m6_, m13_, m14_, m15_, (by rw [ha.out]; exact putSel_upk 12 hb_ rfl rfl rfl), Q_HB, Q_Q1, Q_Q2, Q_Q3, fun h0_ => absurd ((hoff 13 (by kernel_rfl)).symm.trans h0_) (by decide), Q_E3, fun h0_ => absurd ((hoff 13 (by kernel_rfl)).symm.trans h0_) (by decide), Q_X4_, Q_X5_, Q_X6_, fun h0_ => absurd ((hoff 13 (by kernel_rfl)).symm.trans h0_) (by decide), fun h0_ => absurd ((hoff 14 (by kernel_rfl)).symm.trans h0_) (by decide), fun h0_ => absurd ((hoff 15 (by kernel_rfl)).symm.trans h0_) (by decide)⟩
      refine steps_cons ?_ ?_
      · rintro b a w' ⟨A3, c3, r3, A4, c4, r4, m4_, m5_, m6_, m13_, m14_, m15_, ha, Q_HB, Q_Q1, Q_Q2, Q_Q3, Q_Q4, Q_E3, Q_E4, Q_X4_, Q_X5_, Q_X6_, Q_X13_, Q_X14_, Q_X15_⟩ hb_ hon hoff
        refine ⟨_, rfl, fun K hK => ?_⟩
        have e44 : a.tmps[44]? = some (.string s) := by rw [ha]; exact putSel_on (e := (12, 44, .string s)) 12 rfl rfl (hon 12 (by kernel_rfl)) rfl
        have e40 : a.tmps[40]? = some (.bool true) := by rw [ha]; exact putSel_on (e := (8, 40, .bool true)) 8 rfl rfl (hon 8 (by kernel_rfl)) rfl
        replace ha := Aside0.mk ha
        have HB := Aside0.mk Q_HB
        have Q1 := Aside0.mk Q_Q1
        have Q2 := Aside0.mk Q_Q2
        have Q3 := Aside0.mk (Q_Q3 (hon 4 (by kernel_rfl)))
        have E3 := Aside0.mk (Q_E3 (hon 4 (by kernel_rfl)))
        refine goes_ Try.func18 (by kernel_rfl) rfl #[.slice none 0 0, .string s] (wanted_on rfl rfl rfl (e40.trans (by first | rfl | (simp [*]; done)))) rfl rfl (by first | (simp only [List.map_toArray, List.map_cons, List.map_nil, Act.eval, Array.getD_eq_getD_getElem?, Option.getD_some, e44, e40]; done) | (simp only [List.map_toArray, List.map_cons, List.map_nil, Act.eval, Array.getD_eq_getD_getElem?, Option.getD_some, e44, e40]; rfl)) ?_
        refine (text_nil' s (by have := hl1.out; omega) _).mono ?_
        rintro e_ wn_ ⟨An_, cn_, rn_, rfl, hr_, hp_, hB_⟩
        refine ⟨_, rfl, ?_⟩
        refine hK.out _ _ ⟨A3, c3, r3, An_, cn_, rn_, m4_, m5_, m6_, (.slice An_ rn_.length cn_), m14_, m15_, (by rw [ha.out]; exact putSel_upk 13 hb_ rfl rfl rfl), (below_step HB.out hB_), (Q1.out.step hB_), (Q2.out.step hB_), fun _ => (Q3.out.step hB_), fun _ => hp_, Q_E3, fun _ => hr_, Q_X4_, Q_X5_, Q_X6_, fun _ => rfl, fun h0_ => absurd ((hoff 14 (by kernel_rfl)).symm.trans h0_) (by decide), fun h0_ => absurd ((hoff 15 (by kernel_rfl)).symm.trans h0_) (by decide)⟩
      refine steps_cons ?_ ?_
      · rintro b a w' ⟨A3, c3, r3, A4, c4, r4, m4_, m5_, m6_, m13_, m14_, m15_, ha, Q_HB, Q_Q1, Q_Q2, Q_Q3, Q_Q4, Q_E3, Q_E4, Q_X4_, Q_X5_, Q_X6_, Q_X13_, Q_X14_, Q_X15_⟩ hb_ hon hoff
        refine ⟨_, rfl, fun K hK => ?_⟩
        have e45 : a.tmps[45]? = some (m13_) := by rw [ha]; exact putSel_on (e := (13, 45, m13_)) 13 rfl rfl (hon 13 (by kernel_rfl)) rfl
        rw [Q_X13_ (hon 13 (by kernel_rfl))] at e45
        have e40 : a.tmps[40]? = some (.bool true) := by rw [ha]; exact putSel_on (e := (8, 40, .bool true)) 8 rfl rfl (hon 8 (by kernel_rfl)) rfl
        replace ha := Aside0.mk ha
        have HB := Aside0.mk Q_HB
        have Q1 := Aside0.mk Q_Q1
        have Q2 := Aside0.mk Q_Q2
        have Q3 := Aside0.mk (Q_Q3 (hon 4 (by kernel_rfl)))
        have Q4 := Aside0.mk (Q_Q4 (hon 13 (by kernel_rfl)))
        have E3 := Aside0.mk (Q_E3 (hon 4 (by kernel_rfl)))
        have E4 := Aside0.mk (Q_E4 (hon 13 (by kernel_rfl)))
        have hcv_ := Q4.out.conv (Below.refl _ _)
        refine value_ (w1 := w') (v := .string (strOfNums r4)) (wanted_on rfl rfl rfl (e40.trans (by first | rfl | (simp [*]; done)))) rfl ?_ ?_
        · go_simp
          (try simp only [i64_w])
          try rfl
        refine hK.out _ _ ⟨A3, c3, r3, A4, c4, r4, m4_, m5_, m6_, m13_, (.string (strOfNums r4)), m15_, (by rw [ha.out]; exact putSel_upk 14 hb_ rfl rfl rfl), Q_HB, Q_Q1, Q_Q2, Q_Q3, Q_Q4, Q_E3, Q_E4, Q_X4_, Q_X5_, Q_X6_, Q_X13_, fun _ => rfl, fun h0_ => absurd ((hoff 15 (by kernel_rfl)).symm.trans h0_) (by decide)⟩
      refine steps_cons ?_ ?_
      · rintro b a w' ⟨A3, c3, r3, A4, c4, r4, m4_, m5_, m6_, m13_, m14_, m15_, ha, Q_HB, Q_Q1, Q_Q2, Q_Q3, Q_Q4, Q_E3, Q_E4, Q_X4_, Q_X5_, Q_X6_, Q_X13_, Q_X14_, Q_X15_⟩ hb_ hon hoff
        refine ⟨_, rfl, fun K hK => ?_⟩
        have e43 : a.tmps[43]? = some (.string (strOfNums l)) := by rw [ha]; exact putSel_on (e := (11, 43, .string (strOfNums l))) 11 rfl rfl (hon 11 (by kernel_rfl)) rfl
        have e46 : a.tmps[46]? = some (m14_) := by rw [ha]; exact putSel_on (e := (14, 46, m14_)) 14 rfl rfl (hon 14 (by kernel_rfl)) rfl
        rw [Q_X14_ (hon 14 (by kernel_rfl))] at e46
        have e40 : a.tmps[40]? = some (.bool true) := by rw [ha]; exact putSel_on (e := (8, 40, .bool true)) 8 rfl rfl (hon 8 (by kernel_rfl)) rfl
        replace ha := Aside0.mk ha
        have HB := Aside0.mk Q_HB
        have Q1 := Aside0.mk Q_Q1
        have Q2 := Aside0.mk Q_Q2
        have Q3 := Aside0.mk (Q_Q3 (hon 4 (by kernel_rfl)))
        have Q4 := Aside0.mk (Q_Q4 (hon 13 (by kernel_rfl)))
        have E3 := Aside0.mk (Q_E3 (hon 4 (by kernel_rfl)))
        have E4 := Aside0.mk (Q_E4 (hon 13 (by kernel_rfl)))
        have hs_ := small4 hl1.out E4.out
        have hs2_ := eq_true hs_
        have hs3_ := eq_false (Nat.not_lt.2 hs_)
        refine value_ (w1 := w') (v := .string (strOfNums l ++ strOfNums r4)) (wanted_on rfl rfl rfl (e40.trans (by first | rfl | (simp [*]; done)))) rfl ?_ ?_
        · go_simp
          (try simp only [i64_w])
          try rfl
        refine hK.out _ _ ⟨A3, c3, r3, A4, c4, r4, m4_, m5_, m6_, m13_, m14_, (.string (strOfNums l ++ strOfNums r4)), (by rw [ha.out]; exact putSel_upk 15 hb_ rfl rfl rfl), Q_HB, Q_Q1, Q_Q2, Q_Q3, Q_Q4, Q_E3, Q_E4, Q_X4_, Q_X5_, Q_X6_, Q_X13_, Q_X14_, fun _ => rfl⟩
      refine steps_cons ?_ ?_
      · rintro b a w' ⟨A3, c3, r3, A4, c4, r4, m4_, m5_, m6_, m13_, m14_, m15_, ha, Q_HB, Q_Q1, Q_Q2, Q_Q3, Q_Q4, Q_E3, Q_E4, Q_X4_, Q_X5_, Q_X6_, Q_X13_, Q_X14_, Q_X15_⟩ hb_ hon hoff
        refine ⟨_, rfl, fun K hK => ?_⟩
        have e42 : a.tmps[42]? = some (.string (strOfNums r2)) := by rw [ha]; exact putSel_on (e := (10, 42, .string (strOfNums r2))) 10 rfl rfl (hon 10 (by kernel_rfl)) rfl
        have e47 : a.tmps[47]? = some (m15_) := by rw [ha]; exact putSel_on (e := (15, 47, m15_)) 15 rfl rfl (hon 15 (by kernel_rfl)) rfl
        rw [Q_X15_ (hon 15 (by kernel_rfl))] at e47
        have e40 : a.tmps[40]? = some (.bool true) := by rw [ha]; exact putSel_on (e := (8, 40, .bool true)) 8 rfl rfl (hon 8 (by kernel_rfl)) rfl
        replace ha := Aside0.mk ha
        have HB := Aside0.mk Q_HB
        have Q1 := Aside0.mk Q_Q1
        have Q2 := Aside0.mk Q_Q2
        have Q3 := Aside0.mk (Q_Q3 (hon 4 (by kernel_rfl)))
        have Q4 := Aside0.mk (Q_Q4 (hon 13 (by kernel_rfl)))
        have E3 := Aside0.mk (Q_E3 (hon 4 (by kernel_rfl)))
        have E4 := Aside0.mk (Q_E4 (hon 13 (by kernel_rfl)))
        have ht_ := same l r2 r4 (by rw [E2.out, E4.out]; rfl)
        refine value_ (w1 := w') (v := .bool true) (wanted_on rfl rfl rfl (e40.trans (by first | rfl | (simp [*]; done)))) rfl ?_ ?_
        · go_simp
          (try simp only [i64_w])
          try rfl
        refine hK.out _ _ ⟨A3, c3, r3, A4, c4, r4, m4_, m5_, m6_, m13_, m14_, m15_, (by rw [ha.out]; exact putSel_upk 16 hb_ rfl rfl rfl), Q_HB, Q_Q1, Q_Q2, Q_Q3, Q_Q4, Q_E3, Q_E4, Q_X4_, Q_X5_, Q_X6_, Q_X13_, Q_X14_, Q_X15_⟩
      refine steps_cons ?_ ?_
      · rintro b a w' ⟨A3, c3, r3, A4, c4, r4, m4_, m5_, m6_, m13_, m14_, m15_, ha, Q_HB, Q_Q1, Q_Q2, Q_Q3, Q_Q4, Q_E3, Q_E4, Q_X4_, Q_X5_, Q_X6_, Q_X13_, Q_X14_, Q_X15_⟩ hb_ hon hoff
        refine ⟨_, rfl, fun K hK => ?_⟩
        have e40 : a.tmps[40]? = some (.bool true) := by rw [ha]; exact putSel_on (e := (8, 40, .bool true)) 8 rfl rfl (hon 8 (by kernel_rfl)) rfl
        have e48 : a.tmps[48]? = some (.bool true) := by rw [ha]; exact putSel_on (e := (16, 48, .bool true)) 16 rfl rfl (hon 16 (by kernel_rfl)) rfl
        replace ha := Aside0.mk ha
        have HB := Aside0.mk Q_HB
        have Q1 := Aside0.mk Q_Q1
        have Q2 := Aside0.mk Q_Q2
        have Q3 := Aside0.mk (Q_Q3 (hon 4 (by kernel_rfl)))
        have Q4 := Aside0.mk (Q_Q4 (hon 13 (by kernel_rfl)))
        have E3 := Aside0.mk (Q_E3 (hon 4 (by kernel_rfl)))
        have E4 := Aside0.mk (Q_E4 (hon 13 (by kernel_rfl)))
        refine value_ (w1 := w') (v := .bool true) (by rfl) rfl ?_ ?_
        · go_simp
          (try simp only [i64_w])
          try rfl
        refine hK.out _ _ ⟨A3, c3, r3, A4, c4, r4, m4_, m5_, m6_, m13_, m14_, m15_, (by rw [ha.out]; exact putSel_upk 17 hb_ rfl rfl rfl), Q_HB, Q_Q1, Q_Q2, Q_Q3, Q_Q4, Q_E3, Q_E4, Q_X4_, Q_X5_, Q_X6_, Q_X13_, Q_X14_, Q_X15_⟩
      refine steps_cons ?_ ?_
      · rintro b a w' ⟨A3, c3, r3, A4, c4, r4, m4_, m5_, m6_, m13_, m14_, m15_, ha, Q_HB, Q_Q1, Q_Q2, Q_Q3, Q_Q4, Q_E3, Q_E4, Q_X4_, Q_X5_, Q_X6_, Q_X13_, Q_X14_, Q_X15_⟩ hb_ hon hoff
        refine ⟨_, rfl, fun K hK => ?_⟩
        have e49 : a.tmps[49]? = some (.bool true) := by rw [ha]; exact putSel_on (e := (17, 49, .bool true)) 17 rfl rfl (hon 17 (by kernel_rfl)) rfl
        replace ha := Aside0.mk ha
        have HB := Aside0.mk Q_HB
        have Q1 := Aside0.mk Q_Q1
        have Q2 := Aside0.mk Q_Q2
        have Q3 := Aside0.mk (Q_Q3 (hon 4 (by kernel_rfl)))
        have Q4 := Aside0.mk (Q_Q4 (hon 13 (by kernel_rfl)))
        have E3 := Aside0.mk (Q_E3 (hon 4 (by kernel_rfl)))
        have E4 := Aside0.mk (Q_E4 (hon 13 (by kernel_rfl)))
        refine value_ (w1 := w') (v := .bool true) (by rfl) rfl ?_ ?_
        · go_simp
          (try simp only [i64_w])
          try rfl
        refine hK.out _ _ ⟨A3, c3, r3, A4, c4, r4, m4_, m5_, m6_, m13_, m14_, m15_, (by rw [ha.out]; exact putSel_upk 18 hb_ rfl rfl rfl), Q_HB, Q_Q1, Q_Q2, Q_Q3, Q_Q4, Q_E3, Q_E4, Q_X4_, Q_X5_, Q_X6_, Q_X13_, Q_X14_, Q_X15_⟩
      refine steps_cons ?_ ?_
      · rintro b a w' ⟨A3, c3, r3, A4, c4, r4, m4_, m5_, m6_, m13_, m14_, m15_, ha, Q_HB, Q_Q1, Q_Q2, Q_Q3, Q_Q4, Q_E3, Q_E4, Q_X4_, Q_X5_, Q_X6_, Q_X13_, Q_X14_, Q_X15_⟩ hb_ hon hoff
        refine ⟨_, rfl, fun K hK => ?_⟩
        have e0 : a.tmps[0]? = some (.slice A l.length c) := by rw [ha]; exact (putSel_off rfl).trans rfl
        have e50 : a.tmps[50]? = some (.bool true) := by rw [ha]; exact putSel_on (e := (18, 50, .bool true)) 18 rfl rfl (hon 18 (by kernel_rfl)) rfl
        replace ha := Aside0.mk ha
        have HB := Aside0.mk Q_HB
        have Q1 := Aside0.mk Q_Q1
        have Q2 := Aside0.mk Q_Q2
        have Q3 := Aside0.mk (Q_Q3 (hon 4 (by kernel_rfl)))
        have Q4 := Aside0.mk (Q_Q4 (hon 13 (by kernel_rfl)))
        have E3 := Aside0.mk (Q_E3 (hon 4 (by kernel_rfl)))
        have E4 := Aside0.mk (Q_E4 (hon 13 (by kernel_rfl)))
        refine value_ (w1 := w') (v := .slice A l.length c) (wanted_on rfl rfl rfl (e50.trans (by first | rfl | (simp [*]; done)))) rfl ?_ ?_
        · go_simp
          (try simp only [i64_w])
          try rfl
        refine hK.out _ _ ⟨A3, c3, r3, A4, c4, r4, m4_, m5_, m6_, m13_, m14_, m15_, (by rw [ha.out]; exact putSel_upk 19 hb_ rfl rfl rfl), Q_HB, Q_Q1, Q_Q2, Q_Q3, Q_Q4, Q_E3, Q_E4, Q_X4_, Q_X5_, Q_X6_, Q_X13_, Q_X14_, Q_X15_⟩
      refine steps_cons ?_ ?_
      · rintro b a w' ⟨A3, c3, r3, A4, c4, r4, m4_, m5_, m6_, m13_, m14_, m15_, ha, Q_HB, Q_Q1, Q_Q2, Q_Q3, Q_Q4, Q_E3, Q_E4, Q_X4_, Q_X5_, Q_X6_, Q_X13_, Q_X14_, Q_X15_⟩ hb_ hon hoff
        refine ⟨_, rfl, fun K hK => ?_⟩
        have e51 : a.tmps[51]? = some (.slice A l.length c) := by rw [ha]; exact putSel_on (e := (19, 51, .slice A l.length c)) 19 rfl rfl (hon 19 (by kernel_rfl)) rfl
        have e50 : a.tmps[50]? = some (.bool true) := by rw [ha]; exact putSel_on (e := (18, 50, .bool true)) 18 rfl rfl (hon 18 (by kernel_rfl)) rfl
        replace ha := Aside0.mk ha
        have HB := Aside0.mk Q_HB
        have Q1 := Aside0.mk Q_Q1
        have Q2 := Aside0.mk Q_Q2
        have Q3 := Aside0.mk (Q_Q3 (hon 4 (by kernel_rfl)))
        have Q4 := Aside0.mk (Q_Q4 (hon 13 (by kernel_rfl)))
        have E3 := Aside0.mk (Q_E3 (hon 4 (by kernel_rfl)))
        have E4 := Aside0.mk (Q_E4 (hon 13 (by kernel_rfl)))
        have hcv_ := cv1.out _ HB.out
        refine value_ (w1 := w') (v := .string (strOfNums l)) (wanted_on rfl rfl rfl (e50.trans (by first | rfl | (simp [*]; done)))) rfl ?_ ?_
        · go_simp
          (try simp only [i64_w])
          try rfl
        refine hK.out _ _ ⟨A3, c3, r3, A4, c4, r4, m4_, m5_, m6_, m13_, m14_, m15_, (by rw [ha.out]; exact putSel_upk 20 hb_ rfl rfl rfl), Q_HB, Q_Q1, Q_Q2, Q_Q3, Q_Q4, Q_E3, Q_E4, Q_X4_, Q_X5_, Q_X6_, Q_X13_, Q_X14_, Q_X15_⟩
      refine steps_cons ?_ ?_
      · rintro b a w' ⟨A3, c3, r3, A4, c4, r4, m4_, m5_, m6_, m13_, m14_, m15_, ha, Q_HB, Q_Q1, Q_Q2, Q_Q3, Q_Q4, Q_E3, Q_E4, Q_X4_, Q_X5_, Q_X6_, Q_X13_, Q_X14_, Q_X15_⟩ hb_ hon hoff
        refine ⟨_, rfl, fun K hK => ?_⟩
        have e7 : a.tmps[7]? = some (.string (strOfNums l)) := by rw [ha]; exact (putSel_off rfl).trans rfl
        have e50 : a.tmps[50]? = some (.bool true) := by rw [ha]; exact putSel_on (e := (18, 50, .bool true)) 18 rfl rfl (hon 18 (by kernel_rfl)) rfl
        replace ha := Aside0.mk ha
        have HB := Aside0.mk Q_HB
        have Q1 := Aside0.mk Q_Q1
        have Q2 := Aside0.mk Q_Q2
        have Q3 := Aside0.mk (Q_Q3 (hon 4 (by kernel_rfl)))
        have Q4 := Aside0.mk (Q_Q4 (hon 13 (by kernel_rfl)))
        have E3 := Aside0.mk (Q_E3 (hon 4 (by kernel_rfl)))
        have E4 := Aside0.mk (Q_E4 (hon 13 (by kernel_rfl)))
        refine value_ (w1 := w') (v := .string (strOfNums l)) (wanted_on rfl rfl rfl (e50.trans (by first | rfl | (simp [*]; done)))) rfl ?_ ?_
        · go_simp
          (try simp only [i64_w])
          try rfl
        refine hK.out _ _ ⟨A3, c3, r3, A4, c4, r4, m4_, m5_, m6_, m13_, m14_, m15_, (by rw [ha.out]; exact putSel_upk 21 hb_ rfl rfl rfl), Q_HB, Q_Q1, Q_Q2, Q_Q3, Q_Q4, Q_E3, Q_E4, Q_X4_, Q_X5_, Q_X6_, Q_X13_, Q_X14_, Q_X15_⟩
      refine steps_cons ?_ ?_
      · rintro b a w' ⟨A3, c3, r3, A4, c4, r4, m4_, m5_, m6_, m13_, m14_, m15_, ha, Q_HB, Q_Q1, Q_Q2, Q_Q3, Q_Q4, Q_E3, Q_E4, Q_X4_, Q_X5_, Q_X6_, Q_X13_, Q_X14_, Q_X15_⟩ hb_ hon hoff
        refine ⟨_, rfl, fun K hK => ?_⟩
        have e52 : a.tmps[52]? = some (.string (strOfNums l)) := by rw [ha]; exact putSel_on (e := (20, 52, .string (strOfNums l))) 20 rfl rfl (hon 20 (by kernel_rfl)) rfl
        have e53 : a.tmps[53]? = some (.string (strOfNums l)) := by rw [ha]; exact putSel_on (e := (21, 53, .string (strOfNums l))) 21 rfl rfl (hon 21 (by kernel_rfl)) rfl
        have e50 : a.tmps[50]? = some (.bool true) := by rw [ha]; exact putSel_on (e := (18, 50, .bool true)) 18 rfl rfl (hon 18 (by kernel_rfl)) rfl
        replace ha := Aside0.mk ha
        have HB := Aside0.mk Q_HB
        have Q1 := Aside0.mk Q_Q1
        have Q2 := Aside0.mk Q_Q2
        have Q3 := Aside0.mk (Q_Q3 (hon 4 (by kernel_rfl)))
        have Q4 := Aside0.mk (Q_Q4 (hon 13 (by kernel_rfl)))
        have E3 := Aside0.mk (Q_E3 (hon 4 (by kernel_rfl)))
        have E4 := Aside0.mk (Q_E4 (hon 13 (by kernel_rfl)))
        refine value_ (w1 := w') (v := .bool true) (wanted_on rfl rfl rfl (e50.trans (by first | rfl | (simp [*]; done)))) rfl ?_ ?_
        · go_simp
          (try simp only [i64_w])
          try rfl
        refine hK.out _ _ ⟨A3, c3, r3, A4, c4, r4, m4_, m5_, m6_, m13_, m14_, m15_, (by rw [ha.out]; exact putSel_upk 22 hb_ rfl rfl rfl), Q_HB, Q_Q1, Q_Q2, Q_Q3, Q_Q4, Q_E3, Q_E4, Q_X4_, Q_X5_, Q_X6_, Q_X13_, Q_X14_, Q_X15_⟩
      refine steps_cons ?_ ?_
      · rintro b a w' ⟨A3, c3, r3, A4, c4, r4, m4_, m5_, m6_, m13_, m14_, m15_, ha, Q_HB, Q_Q1, Q_Q2, Q_Q3, Q_Q4, Q_E3, Q_E4, Q_X4_, Q_X5_, Q_X6_, Q_X13_, Q_X14_, Q_X15_⟩ hb_ hon hoff
        refine ⟨_, rfl, fun K hK => ?_⟩
        have e50 : a.tmps[50]? = some (.bool true) := by rw [ha]; exact putSel_on (e := (18, 50, .bool true)) 18 rfl rfl (hon 18 (by kernel_rfl)) rfl
        have e54 : a.tmps[54]? = some (.bool true) := by rw [ha]; exact putSel_on (e := (22, 54, .bool true)) 22 rfl rfl (hon 22 (by kernel_rfl)) rfl
        replace ha := Aside0.mk ha
        have HB := Aside0.mk Q_HB
        have Q1 := Aside0.mk Q_Q1
        have Q2 := Aside0.mk Q_Q2
        have Q3 := Aside0.mk (Q_Q3 (hon 4 (by kernel_rfl)))
        have Q4 := Aside0.mk (Q_Q4 (hon 13 (by kernel_rfl)))
        have E3 := Aside0.mk (Q_E3 (hon 4 (by kernel_rfl)))
        have E4 := Aside0.mk (Q_E4 (hon 13 (by kernel_rfl)))
        refine value_ (w1 := w') (v := .bool true) (by rfl) rfl ?_ ?_
        · go_simp
          (try simp only [i64_w])
          try rfl
        refine hK.out _ _ ⟨A3, c3, r3, A4, c4, r4, m4_, m5_, m6_, m13_, m14_, m15_, (by rw [ha.out]; exact putSel_upk 23 hb_ rfl rfl rfl), Q_HB, Q_Q1, Q_Q2, Q_Q3, Q_Q4, Q_E3, Q_E4, Q_X4_, Q_X5_, Q_X6_, Q_X13_, Q_X14_, Q_X15_⟩
      refine steps_cons ?_ ?_
      · rintro b a w' ⟨A3, c3, r3, A4, c4, r4, m4_, m5_, m6_, m13_, m14_, m15_, ha, Q_HB, Q_Q1, Q_Q2, Q_Q3, Q_Q4, Q_E3, Q_E4, Q_X4_, Q_X5_, Q_X6_, Q_X13_, Q_X14_, Q_X15_⟩ hb_ hon hoff
        refine ⟨_, rfl, fun K hK => ?_⟩
        have e55 : a.tmps[55]? = some (.bool true) := by rw [ha]; exact putSel_on (e := (23, 55, .bool true)) 23 rfl rfl (hon 23 (by kernel_rfl)) rfl
        replace ha := Aside0.mk ha
        have HB := Aside0.mk Q_HB
        have Q1 := Aside0.mk Q_Q1
        have Q2 := Aside0.mk Q_Q2
        have Q3 := Aside0.mk (Q_Q3 (hon 4 (by kernel_rfl)))
        have Q4 := Aside0.mk (Q_Q4 (hon 13 (by kernel_rfl)))
        have E3 := Aside0.mk (Q_E3 (hon 4 (by kernel_rfl)))
        have E4 := Aside0.mk (Q_E4 (hon 13 (by kernel_rfl)))
        refine value_ (w1 := w') (v := .bool true) (by rfl) rfl ?_ ?_
        · go_simp
          (try simp only [i64_w])
          try rfl
        refine hK.out _ _ ⟨A3, c3, r3, A4, c4, r4, m4_, m5_, m6_, m13_, m14_, m15_, (by rw [ha.out]; exact putSel_upk 24 hb_ rfl rfl rfl), Q_HB, Q_Q1, Q_Q2, Q_Q3, Q_Q4, Q_E3, Q_E4, Q_X4_, Q_X5_, Q_X6_, Q_X13_, Q_X14_, Q_X15_⟩
      exact steps_nil
    rintro b a w' hall ⟨A3, c3, r3, A4, c4, r4, m4_, m5_, m6_, m13_, m14_, m15_, ha, Q_HB, Q_Q1, Q_Q2, Q_Q3, Q_Q4, Q_E3, Q_E4, Q_X4_, Q_X5_, Q_X6_, Q_X13_, Q_X14_, Q_X15_⟩
    clear HB Q1 Q2
    have hb0_ := hall 0 (by kernel_rfl)
    have hb1_ := hall 1 (by kernel_rfl)
    have hb2_ := hall 2 (by kernel_rfl)
    have hb3_ := hall 3 (by kernel_rfl)
    have hb4_ := hall 4 (by kernel_rfl)
    have hb5_ := hall 5 (by kernel_rfl)
    have hb6_ := hall 6 (by kernel_rfl)
    have hb7_ := hall 7 (by kernel_rfl)
    have hb8_ := hall 8 (by kernel_rfl)
    have hb9_ := hall 9 (by kernel_rfl)
    have hb10_ := hall 10 (by kernel_rfl)
    have hb11_ := hall 11 (by kernel_rfl)
    have hb12_ := hall 12 (by kernel_rfl)
    have hb13_ := hall 13 (by kernel_rfl)
    have hb14_ := hall 14 (by kernel_rfl)
    have hb15_ := hall 15 (by kernel_rfl)
    have hb16_ := hall 16 (by kernel_rfl)
    have hb17_ := hall 17 (by kernel_rfl)
    have hb18_ := hall 18 (by kernel_rfl)
    have hb19_ := hall 19 (by kernel_rfl)
    have hb20_ := hall 20 (by kernel_rfl)
    have hb21_ := hall 21 (by kernel_rfl)
    have hb22_ := hall 22 (by kernel_rfl)
    have hb23_ := hall 23 (by kernel_rfl)
    have hb24_ := hall 24 (by kernel_rfl)
    subst ha
    obtain rfl := Q_X4_ hb4_
    obtain rfl := Q_X5_ hb5_
    obtain rfl := Q_X6_ hb6_
    obtain rfl := Q_X13_ hb13_
    obtain rfl := Q_X14_ hb14_
    obtain rfl := Q_X15_ hb15_
    simp only [putSel, hb0_, hb1_, hb2_, hb3_, hb4_, hb5_, hb6_, hb7_, hb8_, hb9_, hb10_, hb11_, hb12_, hb13_, hb14_, hb15_, hb16_, hb17_, hb18_, hb19_, hb20_, hb21_, hb22_, hb23_, hb24_, if_true, Act.put, List.setIfInBounds_toArray, List.set_cons_zero, List.set_cons_succ]
    have HB := Aside0.mk Q_HB
    clear Q_HB
    have Q1 := Aside0.mk Q_Q1
    clear Q_Q1
    have Q2 := Aside0.mk Q_Q2
    clear Q_Q2
    have Q3 := Aside0.mk (Q_Q3 hb4_)
    clear Q_Q3
    have Q4 := Aside0.mk (Q_Q4 hb13_)
    clear Q_Q4
    have E3 := Aside0.mk (Q_E3 hb4_)
    clear Q_E3
    have E4 := Aside0.mk (Q_E4 hb13_)
    clear Q_E4
    clear hall hb0_ hb1_ hb2_ hb3_ hb4_ hb5_ hb6_ hb7_ hb8_ hb9_ hb10_ hb11_ hb12_ hb13_ hb14_ hb15_ hb16_ hb17_ hb18_ hb19_ hb20_ hb21_ hb22_ hb23_ hb24_
    go_wp2
    go_ret
    exact ⟨rfl, HB.out⟩
  · have K : decide ((100 : Int) < (l.length : Int)) = true ∨ decide ((100 : Int) < (l.length : Int)) = false ∧ decide ((200 : Int) < (s.size : Int)) = true := by
      by_cases h1 : 100 < l.length
      · exact .inl (decide_eq_true (by omega))
      · exact .inr ⟨decide_eq_false (by omega), decide_eq_true (by omega)⟩
    clear hl hs1
    rcases K with k1 | ⟨k1, k2⟩
    all_goals
      go_enter Try.func5, Try.ntmps5
      go_wp2_with (go_at_call 15; refine (head_ok _).mono ?_; rintro e w1 ⟨rfl, hb1⟩; have HB := Aside0.mk hb1; clear hb1)
      go_ret
      exact ⟨rfl, HB.out⟩
end Go.Proofs.Ytolcmjoapnldiaa.NumBehind
