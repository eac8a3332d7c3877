/- Proved: NumTids answers true: whatever bytes as a transaction: its number, and its node, within their bounds. No conditions beyond the given statement's. -/
import Derived.Test.YtolcmjoapnldiaaReads
namespace Go.Proofs.Ytolcmjoapnldiaa.NumTids
open Go Go.RowKit Go.Proofs.Ytolcmjoapnldiaa.Q Go.Proofs.YtolcmjoapnldiaaW.PrintWords Go.Proofs.Ytolcmjoapnldiaa.Leb Go.Proofs.Ytolcmjoapnldiaa.Str Go.Proofs.Ytolcmjoapnldiaa.Num
set_option linter.unusedVariables false
attribute [local go_sem high] eqA28

set_option maxHeartbeats 2000000 in
theorem law_ok (A : Option Addr) (c : Nat) (l : List Int) (w : World) (hc : l.length ≤ c) (hC : Kd.C (Kd.int .u8) w A l.length l) (hw : ∀ x ∈ l, (Lit.int .u8 x).wf = true) :
    Calls Try.prog 7 #[.slice A l.length c] w fun e w' => e = .returned (.bool true) ∧ Below w.heap.size w w' := by
  have hlm := hC.2.1
  have hy := Aside0.mk (Byt.of_wf hw)
  have hC1 := Aside0.mk hC
  have hc1 := Aside0.mk hc
  clear hw hC hc
  by_cases hl : 100 < l.length
  · have t1 : decide ((100 : Int) < (l.length : Int)) = true := decide_eq_true (by omega)
    have t2 : decide (100 < l.length) = true := decide_eq_true hl
    clear hl
    go_enter Try.func7, Try.ntmps7
    go_wp2_with fail
    refine (head_ok _).mono ?_
    rintro e w1 ⟨rfl, hb1⟩
    have HB := Aside0.mk hb1
    clear hb1
    go_wp2
    go_ret
    exact ⟨rfl, HB.out⟩
  · have t1 : decide ((100 : Int) < (l.length : Int)) = false := decide_eq_false (by omega)
    have t2 : decide (100 < l.length) = false := decide_eq_false hl
    clear hl
    obtain ⟨n, p, hp⟩ : ∃ n p, rnum ⟨l, 0⟩ 1099511627776 = (n, p) := ⟨_, _, rfl⟩
    obtain ⟨m, q, hq⟩ : ∃ m q, rnum p 63 = (m, q) := ⟨_, _, rfl⟩
    have hpo : Ok p := by have := rnum_ok (s := ⟨l, 0⟩) 1099511627776 (fun h => absurd rfl h); rw [hp] at this; exact this
    have hqo : Ok q := by have := rnum_ok (s := p) 63 hpo; rw [hq] at this; exact this
    have hpb : Byt p.b := by have := rnum_byt (s := ⟨l, 0⟩) 1099511627776 hy.out; rw [hp] at this; exact this
    have hm := rnum_range (s := p) (most := 63) hpb
    have hm2 := rnum_most (s := p) (m := 63) (by omega)
    rw [hq] at hm hm2
    have hT : num_Reader_Tid.f ⟨l, 0⟩ = some (if q.e = 0 then (n, m, q) else (0, 0, q)) := by
      unfold num_Reader_Tid.f num_Reader_Num.f num_Reader_Err.f
      simp only [Option.bind_some, hp, hq]
      have : wrap64 m = m := by unfold wrap64; simp only at hm hm2; omega
      rw [this]
      split <;> rfl
    have hp1 := Aside0.mk hp
    have hq1 := Aside0.mk hq
    have hm0 : 0 ≤ m := hm.1
    have hm63 : m ≤ 63 := hm2
    clear hp hq hpb hpo hm hm2
    by_cases he : q.e = 0
    · rw [if_pos he] at hT
      have hT1 := Aside0.mk hT
      have t3 : (q.e != 0) = false := by simp [he]
      have t4 : (q.e == 0) = true := by simp [he]
      clear hT he
      go_enter Try.func7, Try.ntmps7
      go_wp2_with fail
      refine (head_ok _).mono ?_
      rintro e w1 ⟨rfl, hb1⟩
      have HB := Aside0.mk hb1
      clear hb1
      go_wp2_with fail
      refine (read_ex _ _ _ _).mono ?_
      rintro e w2 ⟨rfl, rfl⟩
      have I1 := Aside0.mk (is_new HB.out hC1.out hc1.out hy.out)
      have HB2 := Aside0.mk (below_alloc HB.out (.cells #[.slice A l.length c, .int .i64 0] 64))
      clear HB
      generalize w1.alloc (.cells #[.slice A l.length c, .int .i64 0] 64) = w2 at I1 HB2 ⊢
      generalize w1.heap.size = g1 at I1 ⊢
      go_wp2_with fail
      refine (num_Reader_Tid.calls _ _ _ _ _ w _ I1.out HB2.out hT1.out).mono ?_
      rintro e w3 ⟨rfl, hI, hB, _⟩
      have I2 := Aside0.mk hI
      have HB3 := Aside0.mk hB
      clear hI hB I1 HB2
      go_wp2_with fail
      refine (read_ex _ _ _ _).mono ?_
      rintro e w4 ⟨rfl, rfl⟩
      have H2 : Aside0 (Two w ((w3.alloc (.cells #[.int .u64 n, .int .i64 m] 28)).alloc (.cells #[.slice A l.length c, .int .i64 0] 64)) g1 q (w3.heap.size + 1) ⟨l, 0⟩ w3.heap.size (some (.cells #[.int .u64 n, .int .i64 m] 28 (0, 0)))) :=
        ⟨⟨below_alloc (below_alloc HB3.out _) _, (I2.out.alloc _).alloc _, by simpa using is_new (below_alloc HB3.out (.cells #[.int .u64 n, .int .i64 m] 28)) hC1.out hc1.out hy.out, .inr ⟨blk_alloc (blk_new w3 _) _, by have := I2.out.lt; omega, by omega⟩, by have := I2.out.lt; omega⟩⟩
      clear I2 HB3
      rw [show (w3.alloc (.cells #[.int .u64 n, .int .i64 m] 28)).heap.size = w3.heap.size + 1 by simp]
      generalize (w3.alloc (.cells #[.int .u64 n, .int .i64 m] 28)).alloc (.cells #[.slice A l.length c, .int .i64 0] 64) = w4 at H2 ⊢
      generalize w3.heap.size + 1 = g2 at H2 ⊢
      generalize w3.heap.size = gt at H2 ⊢
      go_wp2_with fail
      refine (H2.out.num2 _ _ _ hp1.out).mono ?_
      rintro e w5 ⟨rfl, h⟩
      have H3 := Aside0.mk h
      clear h H2
      go_wp2_with fail
      refine (H3.out.num2 _ _ _ hq1.out).mono ?_
      rintro e w6 ⟨rfl, h⟩
      have H4 := Aside0.mk h
      clear h H3
      go_wp2_with fail
      refine H4.out.err2.mono ?_
      rintro e w7 ⟨rfl, h⟩
      have H5 := Aside0.mk h
      clear h H4
      go_wp2_with fail
      refine H5.out.err1.mono ?_
      rintro e w8 ⟨rfl, h⟩
      have H6 := Aside0.mk h
      have b0 : w8.cell? ⟨gt, 0, none⟩ = some (.int .u64 n) := (blk_cell h.box 0).trans rfl
      have b1 : w8.cell? ⟨gt, 1, none⟩ = some (.int .i64 m) := (blk_cell h.box 1).trans rfl
      clear h H5
      go_wp2_with fail
      refine H6.out.left1.mono ?_
      rintro e w9 ⟨rfl, h⟩
      have H7 := Aside0.mk h
      clear h H6 b0 b1
      go_wp2_with fail
      refine H7.out.left2.mono ?_
      rintro e wa ⟨rfl, h⟩
      have H8 := Aside0.mk h
      clear h H7
      go_wp2
      go_ret
      exact ⟨rfl, H8.out.B⟩
    · have hb0 : q.b = [] := hqo he
      rw [if_neg he] at hT
      have hT1 := Aside0.mk hT
      have t3 : (q.e != 0) = true := by simpa using he
      have t4 : ((q.b.length : Int) == 0) = true := by simp [hb0]
      clear hT he hb0
      go_enter Try.func7, Try.ntmps7
      go_wp2_with fail
      refine (head_ok _).mono ?_
      rintro e w1 ⟨rfl, hb1⟩
      have HB := Aside0.mk hb1
      clear hb1
      go_wp2_with fail
      refine (read_ex _ _ _ _).mono ?_
      rintro e w2 ⟨rfl, rfl⟩
      have I1 := Aside0.mk (is_new HB.out hC1.out hc1.out hy.out)
      have HB2 := Aside0.mk (below_alloc HB.out (.cells #[.slice A l.length c, .int .i64 0] 64))
      clear HB
      generalize w1.alloc (.cells #[.slice A l.length c, .int .i64 0] 64) = w2 at I1 HB2 ⊢
      generalize w1.heap.size = g1 at I1 ⊢
      go_wp2_with fail
      refine (num_Reader_Tid.calls _ _ _ _ _ w _ I1.out HB2.out hT1.out).mono ?_
      rintro e w3 ⟨rfl, hI, hB, _⟩
      have I2 := Aside0.mk hI
      have HB3 := Aside0.mk hB
      clear hI hB I1 HB2
      go_wp2_with fail
      refine (read_ex _ _ _ _).mono ?_
      rintro e w4 ⟨rfl, rfl⟩
      have H2 : Aside0 (Two w ((w3.alloc (.cells #[.int .u64 0, .int .i64 0] 28)).alloc (.cells #[.slice A l.length c, .int .i64 0] 64)) g1 q (w3.heap.size + 1) ⟨l, 0⟩ w3.heap.size (some (.cells #[.int .u64 0, .int .i64 0] 28 (0, 0)))) :=
        ⟨⟨below_alloc (below_alloc HB3.out _) _, (I2.out.alloc _).alloc _, by simpa using is_new (below_alloc HB3.out (.cells #[.int .u64 0, .int .i64 0] 28)) hC1.out hc1.out hy.out, .inr ⟨blk_alloc (blk_new w3 _) _, by have := I2.out.lt; omega, by omega⟩, by have := I2.out.lt; omega⟩⟩
      clear I2 HB3
      rw [show (w3.alloc (.cells #[.int .u64 0, .int .i64 0] 28)).heap.size = w3.heap.size + 1 by simp]
      generalize (w3.alloc (.cells #[.int .u64 0, .int .i64 0] 28)).alloc (.cells #[.slice A l.length c, .int .i64 0] 64) = w4 at H2 ⊢
      generalize w3.heap.size + 1 = g2 at H2 ⊢
      generalize w3.heap.size = gt at H2 ⊢
      go_wp2_with fail
      refine (H2.out.num2 _ _ _ hp1.out).mono ?_
      rintro e w5 ⟨rfl, h⟩
      have H3 := Aside0.mk h
      clear h H2
      go_wp2_with fail
      refine (H3.out.num2 _ _ _ hq1.out).mono ?_
      rintro e w6 ⟨rfl, h⟩
      have H4 := Aside0.mk h
      clear h H3
      go_wp2_with fail
      refine H4.out.err2.mono ?_
      rintro e w7 ⟨rfl, h⟩
      have H5 := Aside0.mk h
      clear h H4
      go_wp2_with fail
      refine H5.out.err1.mono ?_
      rintro e w8 ⟨rfl, h⟩
      have H6 := Aside0.mk h
      have b0 : w8.cell? ⟨gt, 0, none⟩ = some (.int .u64 0) := (blk_cell h.box 0).trans rfl
      have b1 : w8.cell? ⟨gt, 1, none⟩ = some (.int .i64 0) := (blk_cell h.box 1).trans rfl
      clear h H5
      go_wp2_with fail
      refine H6.out.err2.mono ?_
      rintro e w9 ⟨rfl, h⟩
      have H7 := Aside0.mk h
      have b0 : w9.cell? ⟨gt, 0, none⟩ = some (.int .u64 0) := (blk_cell h.box 0).trans rfl
      have b1 : w9.cell? ⟨gt, 1, none⟩ = some (.int .i64 0) := (blk_cell h.box 1).trans rfl
      clear h H6
      go_wp2_with fail
      refine H7.out.left1.mono ?_
      rintro e wa ⟨rfl, h⟩
      have H8 := Aside0.mk h
      clear h H7 b0 b1
      go_wp2
      go_ret
      exact ⟨rfl, H8.out.B⟩
end Go.Proofs.Ytolcmjoapnldiaa.NumTids
