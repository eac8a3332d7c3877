/- Proved: NumTexts answers true: whatever bytes as a text, of so many at most. No conditions beyond the given statement's. -/
import Derived.Test.YtolcmjoapnldiaaReads
namespace Go.Proofs.Ytolcmjoapnldiaa.NumTexts
open Go Go.RowKit Go.Proofs.Ytolcmjoapnldiaa.Q Go.Proofs.YtolcmjoapnldiaaW.PrintWords Go.Proofs.Ytolcmjoapnldiaa.Leb Go.Proofs.Ytolcmjoapnldiaa.Str Go.Proofs.Ytolcmjoapnldiaa.Num
set_option linter.unusedVariables false

/-- A piece out of the midst of bytes that are read. -/
theorem mid (A : Option Addr) (c : Nat) (l : List Int) (w : World) (k j : Nat) (hC : Kd.C (Kd.int .u8) w A l.length l) (hc : l.length ≤ c) (hkj : k + j ≤ l.length) :
    ∃ A2, (∀ W : World, (Instr.slice 24 (.slice A l.length c) (some (.int .i64 k)) (some (.int .i64 ((k : Int) + (j : Int)))) none).run Try.prog W = .ok (.slice A2 j (c - k)) W) ∧
      ∀ W, Below w.heap.size w W → (convert 24 9 (.slice A2 j (c - k))).run Try.prog W = .ok (.string (strOfNums ((l.drop k).take j))) W := by
  obtain ⟨i0, hi, _, hz1, _⟩ := info_parts info5
  have h1 := cut_mid (P := Try.prog) 24 5 .i64 .i64 Try.underlying24 hi 1 hz1 A l.length c (k : Int) ((k : Int) + (j : Int)) (by omega) (by omega) (by omega) hc
  have e1 : ((k : Int)).toNat = k := by omega
  have e2 : ((k : Int) + (j : Int)).toNat - k = j := by omega
  rw [e1, e2] at h1
  refine ⟨_, h1, fun W hW => ?_⟩
  have h2 := Kd.C_mid (lo := k) (hi := k + j) hC (by omega) hkj hc
  have e3 : (l.take (k + j)).drop k = (l.drop k).take j := by rw [List.drop_take, Nat.add_sub_cancel_left]
  have e4 : ((l.drop k).take j).length = j := by rw [List.length_take, List.length_drop]; omega
  rw [e3] at h2
  have h3 := conv_take h2 hW (c - k) (Nat.le_refl _)
  rw [List.take_length, e4] at h3
  exact h3

theorem rgo_suffix {most : Int} : ∀ (l : List Int) (j : Nat) (acc : Int), (rgo most j acc l).2.e = 0 → ∃ k, (rgo most j acc l).2.b = l.drop k ∧ k ≤ l.length
  | [], j, acc, h => by rw [rgo_short] at h; cases h
  | x :: t, j, acc, h => by
    by_cases hbad : (j = 9 ∧ 1 < x) ∨ (0 < j ∧ x = 0)
    · rw [rgo_bad hbad] at h; cases h
    · by_cases hc : 128 ≤ x
      · rw [rgo_more hbad hc] at h ⊢
        obtain ⟨k, h1, h2⟩ := rgo_suffix t _ _ h
        exact ⟨k + 1, by simpa using h1, by simp; omega⟩
      · by_cases hm : most < acc + x % 128 * 128 ^ j
        · rw [rgo_many hbad (by omega) hm] at h; cases h
        · rw [rgo_done hbad (by omega) hm]
          exact ⟨1, by simp, by simp⟩

set_option maxHeartbeats 2000000 in
theorem law_ok (A : Option Addr) (c : Nat) (l : List Int) (m : Int) (w : World) (hc : l.length ≤ c) (hC : Kd.C (Kd.int .u8) w A l.length l) (hw : ∀ x ∈ l, (Lit.int .u8 x).wf = true) (hm : (Lit.int .i64 m).wf = true) :
    Calls Try.prog 8 #[.slice A l.length c, .int .i64 m] w fun e w' => e = .returned (.bool true) ∧ Below w.heap.size w w' := by
  have hlm := hC.2.1
  have hy := Aside0.mk (Byt.of_wf hw)
  have hC1 := Aside0.mk hC
  have hc1 := Aside0.mk hc
  have hmb := bounds_i64 hm
  clear hw hC hc hm
  by_cases hl : 300 < l.length
  · have t1 : decide ((300 : Int) < (l.length : Int)) = true := decide_eq_true (by omega)
    have t2 : decide (300 < l.length) = true := decide_eq_true hl
    clear hl hmb
    go_enter Try.func8, Try.ntmps8
    go_wp2_with fail
    refine (head_ok _).mono ?_
    rintro e w1 ⟨rfl, hb1⟩
    have HB := Aside0.mk hb1
    clear hb1
    go_wp2
    go_ret
    exact ⟨rfl, HB.out⟩
  · have t1 : decide ((300 : Int) < (l.length : Int)) = false := decide_eq_false (by omega)
    have t2 : decide (300 < l.length) = false := decide_eq_false hl
    have hl3 : l.length ≤ 300 := by omega
    clear hl
    obtain ⟨M, hM⟩ : ∃ M : Int, M = if 0 < m then m else 0 := ⟨_, rfl⟩
    obtain ⟨n, p, hp⟩ : ∃ n p, rnum ⟨l, 0⟩ M = (n, p) := ⟨_, _, rfl⟩
    have hpr := rnum_range (s := ⟨l, 0⟩) (most := M) hy.out
    rw [hp] at hpr
    have hT : num_Reader_Text.f ⟨l, 0⟩ m = some (if p.e = 0 then (if (p.b.length : Int) < n then (⟨#[]⟩, ⟨[], 6⟩) else (strOfNums (p.b.take n.toNat), ⟨p.b.drop n.toNat, 0⟩)) else (⟨#[]⟩, p)) := by
      unfold num_Reader_Text.f rtext
      rw [if_pos ⟨hmb.1, hmb.2⟩]
      simp only [← hM, hp]
    have hMm : (0 < m ∧ M = m) ∨ (m < 0 ∧ M = 0) ∨ (m = 0 ∧ M = 0) := by
      by_cases h : 0 < m
      · exact .inl ⟨h, by rw [hM, if_pos h]⟩
      · by_cases h2 : m < 0
        · exact .inr (.inl ⟨h2, by rw [hM, if_neg h]⟩)
        · exact .inr (.inr ⟨by omega, by rw [hM, if_neg h]⟩)
    have hp1 := Aside0.mk hp
    have hn0 : 0 ≤ n := hpr.1
    by_cases he : p.e = 0
    · have t3 : (p.e != 0) = false := by simp [he]
      rw [if_pos he] at hT
      obtain ⟨k, hk, hkl⟩ : ∃ k, p.b = l.drop k ∧ k ≤ l.length := by
        have h2 := rgo_suffix (most := M) l 0 0
        have h3 : rgo M 0 0 l = (n, p) := by simpa [rnum] using hp
        rw [h3] at h2
        exact h2 he
      have hkp : p.b.length = l.length - k := by rw [hk, List.length_drop]
      have hpm : p.b.length ≤ 300 := by omega
      clear he hp hpr hM
      by_cases hs : (p.b.length : Int) < n
      · rw [if_pos hs] at hT
        have hT1 := Aside0.mk hT
        have t4 : decide ((p.b.length : Int) < n) = true := decide_eq_true hs
        have hk1 := Aside0.mk hk
        have hkp1 := Aside0.mk hkp
        clear hT hs hk hkp hn0 hkl
        rcases hMm with ⟨hm0, rfl⟩ | ⟨hm0, rfl⟩ | ⟨rfl, rfl⟩
        all_goals
          go_enter Try.func8, Try.ntmps8
          go_wp2_with fail
          refine (head_ok _).mono ?_
          rintro e w1 ⟨rfl, hb1⟩
          have HB := Aside0.mk hb1
          clear hb1
          go_wp2_with fail
          refine (read_ex _ _ _ _).mono ?_
          rintro e w2 ⟨rfl, rfl⟩
          have I1 := Aside0.mk (is_new HB.out hC1.out hc1.out hy.out)
          have HB2 := Aside0.mk (below_alloc HB.out (.cells #[.slice A l.length c, .int .i64 0] 64))
          clear HB
          generalize w1.alloc (.cells #[.slice A l.length c, .int .i64 0] 64) = w2 at I1 HB2 ⊢
          generalize w1.heap.size = g1 at I1 ⊢
          go_wp2_with fail
          refine (num_Reader_Text.calls _ _ _ _ _ w _ I1.out HB2.out hT1.out).mono ?_
          rintro e w3 ⟨rfl, hI, hB, _⟩
          have I2 := Aside0.mk hI
          have HB3 := Aside0.mk hB
          clear hI hB I1 HB2
          go_wp2_with fail
          refine (read_ex _ _ _ _).mono ?_
          rintro e w4 ⟨rfl, rfl⟩
          have H2 : Aside0 (Two w (w3.alloc (.cells #[.slice A l.length c, .int .i64 0] 64)) g1 ⟨[], 6⟩ w3.heap.size ⟨l, 0⟩ 0 none) :=
            ⟨⟨below_alloc HB3.out _, I2.out.alloc _, is_new HB3.out hC1.out hc1.out hy.out, .inl rfl, by have := I2.out.lt; omega⟩⟩
          clear I2 HB3
          generalize w3.alloc (.cells #[.slice A l.length c, .int .i64 0] 64) = w4 at H2 ⊢
          generalize w3.heap.size = g2 at H2 ⊢
          go_wp2_with (go_at_call 23; with_reducible refine (H2.out.num2 _ _ _ hp1.out).mono ?_; rintro e w5 ⟨rfl, h⟩; have H3 := Aside0.mk h; clear h H2)
          refine H3.out.err2.mono ?_
          rintro e w6 ⟨rfl, h⟩
          have H4 := Aside0.mk h
          clear h H3
          go_wp2_with fail
          refine H4.out.left2.mono ?_
          rintro e wxH5 ⟨rfl, h⟩
          have H5 := Aside0.mk h
          clear h H4
          go_wp2_with fail
          refine H5.out.left2.mono ?_
          rintro e wxH6 ⟨rfl, h⟩
          have H6 := Aside0.mk h
          clear h H5
          go_wp2_with fail
          refine H6.out.err1.mono ?_
          rintro e wxH7 ⟨rfl, h⟩
          have H7 := Aside0.mk h
          clear h H6
          go_wp2
          go_ret
          exact ⟨rfl, H7.out.B⟩
      · rw [if_neg hs] at hT
        have hT1 := Aside0.mk hT
        have t4 : decide ((p.b.length : Int) < n) = false := decide_eq_false hs
        obtain ⟨j, rfl⟩ := Int.eq_ofNat_of_zero_le hn0
        have hj : j ≤ p.b.length := by omega
        obtain ⟨A2, hcut, hcv⟩ := mid A c l w k j hC1.out hc1.out (by omega)
        have hcut1 := Aside0.mk hcut
        have hcv1 := Aside0.mk hcv
        have hsub : (l.length : Int) - (p.b.length : Int) = (k : Int) := by omega
        have hk1 := Aside0.mk hk
        have hk3 : k ≤ 300 := by omega
        have hj3 : j ≤ 300 := by omega
        have t5 : (((p.b.drop j).length : Int) == (p.b.length : Int) - (j : Int)) = true := by
          rw [List.length_drop]; simp; omega
        have t7 : (((p.b.length - j : Nat) : Int) == (p.b.length : Int) - (j : Int)) = true := by simp; omega
        have t6 : decide (p.b.length < j) = false := decide_eq_false (by omega)
        clear hT hs hk hkp hn0 hkl hcut hcv
        rcases hMm with ⟨hm0, rfl⟩ | ⟨hm0, rfl⟩ | ⟨rfl, rfl⟩
        all_goals
          go_enter Try.func8, Try.ntmps8
          go_wp2_with fail
          refine (head_ok _).mono ?_
          rintro e w1 ⟨rfl, hb1⟩
          have HB := Aside0.mk hb1
          clear hb1
          go_wp2_with fail
          refine (read_ex _ _ _ _).mono ?_
          rintro e w2 ⟨rfl, rfl⟩
          have I1 := Aside0.mk (is_new HB.out hC1.out hc1.out hy.out)
          have HB2 := Aside0.mk (below_alloc HB.out (.cells #[.slice A l.length c, .int .i64 0] 64))
          clear HB
          generalize w1.alloc (.cells #[.slice A l.length c, .int .i64 0] 64) = w2 at I1 HB2 ⊢
          generalize w1.heap.size = g1 at I1 ⊢
          go_wp2_with fail
          refine (num_Reader_Text.calls _ _ _ _ _ w _ I1.out HB2.out hT1.out).mono ?_
          rintro e w3 ⟨rfl, hI, hB, _⟩
          have I2 := Aside0.mk hI
          have HB3 := Aside0.mk hB
          clear hI hB I1 HB2
          go_wp2_with fail
          refine (read_ex _ _ _ _).mono ?_
          rintro e w4 ⟨rfl, rfl⟩
          have H2 : Aside0 (Two w (w3.alloc (.cells #[.slice A l.length c, .int .i64 0] 64)) g1 ⟨p.b.drop j, 0⟩ w3.heap.size ⟨l, 0⟩ 0 none) :=
            ⟨⟨below_alloc HB3.out _, I2.out.alloc _, is_new HB3.out hC1.out hc1.out hy.out, .inl rfl, by have := I2.out.lt; omega⟩⟩
          clear I2 HB3
          generalize w3.alloc (.cells #[.slice A l.length c, .int .i64 0] 64) = w4 at H2 ⊢
          generalize w3.heap.size = g2 at H2 ⊢
          go_wp2_with (go_at_call 23; with_reducible refine (H2.out.num2 _ _ _ hp1.out).mono ?_; rintro e w5 ⟨rfl, h⟩; have H3 := Aside0.mk h; clear h H2)
          refine H3.out.err2.mono ?_
          rintro e w6 ⟨rfl, h⟩
          have H4 := Aside0.mk h
          clear h H3
          go_wp2_with fail
          refine H4.out.left2.mono ?_
          rintro e wxH5 ⟨rfl, h⟩
          have H5 := Aside0.mk h
          clear h H4
          go_wp2_with fail
          refine H5.out.left2.mono ?_
          rintro e wxH6 ⟨rfl, h⟩
          have H6 := Aside0.mk h
          clear h H5
          go_wp2_with fail
          refine H6.out.err1.mono ?_
          rintro e wxH7 ⟨rfl, h⟩
          have H7 := Aside0.mk h
          have hcv7 := hcv1.out _ h.B; have hct7 := hcut1.out; rw [← hk1.out] at hcv7; clear h H6
          go_wp2_with fail
          refine H7.out.left1.mono ?_
          rintro e wxH8 ⟨rfl, h⟩
          have H8 := Aside0.mk h
          clear h H7
          go_wp2_with fail
          refine H8.out.left2.mono ?_
          rintro e wxH9 ⟨rfl, h⟩
          have H9 := Aside0.mk h
          clear h H8
          go_wp2
          go_ret
          exact ⟨rfl, H9.out.B⟩
    · have t3 : (p.e != 0) = true := by simpa using he
      rw [if_neg he] at hT
      have hT1 := Aside0.mk hT
      clear he hT hpr hp hM hn0
      rcases hMm with ⟨hm0, rfl⟩ | ⟨hm0, rfl⟩ | ⟨rfl, rfl⟩
      all_goals
        go_enter Try.func8, Try.ntmps8
        go_wp2_with fail
        refine (head_ok _).mono ?_
        rintro e w1 ⟨rfl, hb1⟩
        have HB := Aside0.mk hb1
        clear hb1
        go_wp2_with fail
        refine (read_ex _ _ _ _).mono ?_
        rintro e w2 ⟨rfl, rfl⟩
        have I1 := Aside0.mk (is_new HB.out hC1.out hc1.out hy.out)
        have HB2 := Aside0.mk (below_alloc HB.out (.cells #[.slice A l.length c, .int .i64 0] 64))
        clear HB
        generalize w1.alloc (.cells #[.slice A l.length c, .int .i64 0] 64) = w2 at I1 HB2 ⊢
        generalize w1.heap.size = g1 at I1 ⊢
        go_wp2_with fail
        refine (num_Reader_Text.calls _ _ _ _ _ w _ I1.out HB2.out hT1.out).mono ?_
        rintro e w3 ⟨rfl, hI, hB, _⟩
        have I2 := Aside0.mk hI
        have HB3 := Aside0.mk hB
        clear hI hB I1 HB2
        go_wp2_with fail
        refine (read_ex _ _ _ _).mono ?_
        rintro e w4 ⟨rfl, rfl⟩
        have H2 : Aside0 (Two w (w3.alloc (.cells #[.slice A l.length c, .int .i64 0] 64)) g1 p w3.heap.size ⟨l, 0⟩ 0 none) :=
          ⟨⟨below_alloc HB3.out _, I2.out.alloc _, is_new HB3.out hC1.out hc1.out hy.out, .inl rfl, by have := I2.out.lt; omega⟩⟩
        clear I2 HB3
        generalize w3.alloc (.cells #[.slice A l.length c, .int .i64 0] 64) = w4 at H2 ⊢
        generalize w3.heap.size = g2 at H2 ⊢
        go_wp2_with (go_at_call 23; with_reducible refine (H2.out.num2 _ _ _ hp1.out).mono ?_; rintro e w5 ⟨rfl, h⟩; have H3 := Aside0.mk h; clear h H2)
        refine H3.out.err2.mono ?_
        rintro e w6 ⟨rfl, h⟩
        have H4 := Aside0.mk h
        clear h H3
        go_wp2_with fail
        refine H4.out.err1.mono ?_
        rintro e wxH5 ⟨rfl, h⟩
        have H5 := Aside0.mk h
        clear h H4
        go_wp2_with fail
        refine H5.out.err2.mono ?_
        rintro e wxH6 ⟨rfl, h⟩
        have H6 := Aside0.mk h
        clear h H5
        go_wp2
        go_ret
        exact ⟨rfl, H6.out.B⟩
end Go.Proofs.Ytolcmjoapnldiaa.NumTexts
