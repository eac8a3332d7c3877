/- Proved: NumPuts answers true: any numbers, texts and transactions, one behind the other, byte by byte, and read again. No conditions beyond the given statement's. -/
import Derived.Test.YtolcmjoapnldiaaNumPutsP
import Derived.Deep.QuietTactic
import Derived.BigQuiet
namespace Go.Proofs.Ytolcmjoapnldiaa.NumPuts
open Go Go.RowKit Go.Proofs.Ytolcmjoapnldiaa.Q Go.Proofs.YtolcmjoapnldiaaW.PrintWords Go.Proofs.YtolcmjoapnldiaaW.PrintMore Go.Proofs.YtolcmjoapnldiaaW.PrintLast Go.Proofs.Ytolcmjoapnldiaa.Leb Go.Proofs.Ytolcmjoapnldiaa.Str Go.Proofs.Ytolcmjoapnldiaa.Num
set_option linter.unusedVariables false
set_option linter.unusedSimpArgs false
attribute [local go_sem high] eqA28

def np27.T27 : Bool × List (List Nat × List Nat) := (true, [([], []), ([], []), ([1], [1]), ([2], [2]), ([0, 3, 3], [0, 3]), ([], []), ([5], [5]), ([6], [6]), ([7, 4], [7]), ([4, 8, 8], [4, 8]), ([9, 9, 0, 1, 2, 3, 4, 5, 6, 7, 8, 9], [0, 9])])
def np27.B27 : List Nat := [0, 0, 2, 6, 15, 0, 32, 96, 255, 511, 1023]
theorem np27.tab27 : rtab .any (opsOf Try.f11 27) = np27.T27 := by kernel_rfl
theorem np27.bits27 : waitsOk np27.T27.2 np27.B27 = true := by kernel_rfl
def np47.T47 : Bool × List (List Nat × List Nat) := (true, [([], []), ([0], [0]), ([], []), ([1, 2], [1, 2])])
def np47.B47 : List Nat := [0, 1, 0, 7]
theorem np47.tab47 : rtab .any (opsOf Try.f11 47) = np47.T47 := by kernel_rfl
theorem np47.bits47 : waitsOk np47.T47.2 np47.B47 = true := by kernel_rfl
set_option maxRecDepth 100000 in
set_option maxHeartbeats 8000000 in
theorem law_ok (A0 : Option Addr) (c0 : Nat) (ns : List Int) (A1 : Option Addr) (c1 : Nat) (ss : List ByteArray) (A2 : Option Addr) (c2 : Nat) (ts : List (Int × Int)) (w : World)
    (hc0 : ns.length ≤ c0) (hC0 : Kd.C (Kd.int .u64) w A0 ns.length ns) (hw0 : ∀ x ∈ ns, (Lit.int .u64 x).wf = true) (hc1 : ss.length ≤ c1) (hC1 : Kd.C Kd.string w A1 ss.length ss) (hw1 : ∀ x ∈ ss, x.size ≤ maxLen) (hc2 : ts.length ≤ c2) (hC2 : Kd.C kTid w A2 ts.length ts) (hw2 : ∀ x ∈ ts, TidOk x) :
    Calls Try.prog 11 #[.slice A0 ns.length c0, .slice A1 ss.length c1, .slice A2 ts.length c2] w fun e w' => e = .returned (.bool true) ∧ Below w.heap.size w w' := by
  have hA := hC0.2.1
  have hB := hC1.2.1
  have hC := hC2.2.1
  by_cases hs : ns.length ≤ 20 ∧ ss.length ≤ 20 ∧ ts.length ≤ 20
  case neg =>
    have t : ∀ n : Nat, (decide (20 < n) = false ∧ decide ((20 : Int) < (n : Int)) = false) ∨ (decide (20 < n) = true ∧ decide ((20 : Int) < (n : Int)) = true) := fun n => by
      rcases Nat.lt_or_ge 20 n with h | h
      · exact .inr ⟨decide_eq_true h, decide_eq_true (by omega)⟩
      · exact .inl ⟨decide_eq_false (by omega), decide_eq_false (by omega)⟩
    have key : (decide (20 < ns.length) = true ∧ decide ((20 : Int) < (ns.length : Int)) = true) ∨ ((decide (20 < ns.length) = false ∧ decide ((20 : Int) < (ns.length : Int)) = false) ∧ decide (20 < ss.length) = true ∧ decide ((20 : Int) < (ss.length : Int)) = true) ∨ ((decide (20 < ns.length) = false ∧ decide ((20 : Int) < (ns.length : Int)) = false) ∧ (decide (20 < ss.length) = false ∧ decide ((20 : Int) < (ss.length : Int)) = false) ∧ decide (20 < ts.length) = true ∧ decide ((20 : Int) < (ts.length : Int)) = true) := by
      rcases t ns.length with h1 | h1
      · rcases t ss.length with h2 | h2
        · rcases t ts.length with h3 | h3
          · exact absurd ⟨by have := of_decide_eq_false h1.1; omega, by have := of_decide_eq_false h2.1; omega, by have := of_decide_eq_false h3.1; omega⟩ hs
          · exact .inr (.inr ⟨h1, h2, h3⟩)
        · exact .inr (.inl ⟨h1, h2⟩)
      · exact .inl h1
    clear hs t hC0 hw0 hC1 hw1 hC2 hw2 hc0 hc1 hc2
    rcases key with ⟨t1, u1⟩ | ⟨⟨t1, u1⟩, t2, u2⟩ | ⟨⟨t1, u1⟩, ⟨t2, u2⟩, t3, u3⟩
    all_goals
      go_enter Try.func11, Try.ntmps11
      go_wp2_with fail
      refine (head_ok _).mono ?_
      rintro e w0 ⟨rfl, hb⟩
      have HB := Aside0.mk hb
      clear hb
      go_wp2
      go_ret
      exact ⟨rfl, HB.out⟩
  obtain ⟨s1, s2, s3⟩ := hs
  have t1 : decide (20 < ns.length) = false := decide_eq_false (by omega)
  have t2 : decide (20 < ss.length) = false := decide_eq_false (by omega)
  have t3 : decide (20 < ts.length) = false := decide_eq_false (by omega)
  have u1 : decide ((20 : Int) < (ns.length : Int)) = false := decide_eq_false (by omega)
  have u2 : decide ((20 : Int) < (ss.length : Int)) = false := decide_eq_false (by omega)
  have u3 : decide ((20 : Int) < (ts.length : Int)) = false := decide_eq_false (by omega)
  have HN := Aside0.mk hC0
  have HS := Aside0.mk hC1
  have HT := Aside0.mk hC2
  have HW0 := Aside0.mk (show ∀ x ∈ ns, 0 ≤ x ∧ x ≤ 18446744073709551615 from fun x hx => bounds_u64 (hw0 x hx))
  have HW2 := Aside0.mk (show ∀ x ∈ ts, (0 ≤ x.1 ∧ x.1 ≤ 18446744073709551615) from fun x hx => bounds_u64 (hw2 x hx).1)
  have LN := Aside0.mk (show ∀ k, (nB (ns.take k)).length ≤ 200 from fun k => by
    have h := fm_len (fun n : Int => leb n.toNat) 10 (ns.take k) (fun x hx => leb_ten (by have := HW0.out x (List.mem_of_mem_take hx); omega))
    have h2 : (ns.take k).length ≤ ns.length := List.length_take_le' ..
    show (List.flatMap _ _).length ≤ 200
    omega)
  clear hC0 hw0 hC1 hw1 hC2 hw2 hc0 hc1 hc2
  go_enter Try.func11, Try.ntmps11
  go_wp2_with fail
  refine (head_ok _).mono ?_
  rintro e w0 ⟨rfl, hb⟩
  have HB := Aside0.mk (two_begin hb)
  clear hb
  go_wp2
  generalize (w0.alloc (.cells #[] 5)).alloc (.cells #[] 5) = wb at HB ⊢
  go_loopw [7, 8, 41] (fun v7 v8 i wr => ∃ k : Nat, k ≤ ns.length ∧ i = .int .i64 k ∧ Aside0 (Rows2 w wr v7 v8 (nB (ns.take k)) (nB (ns.take k)))) (fun _ _ i _ => ns.length - (intOf i).toNat)
  case atStart => exact ⟨0, Nat.zero_le _, rfl, HB⟩
  case round =>
    obtain ⟨k, hk, rfl, hR⟩ := hrel
    clear HB
    by_cases hlt : k < ns.length
    · obtain ⟨ad, hA1, hcell⟩ := Kd.at_int HN.out (k : Int) (by omega) (by omega)
      obtain ⟨n, hn⟩ : ∃ n, n = ns[k] := ⟨_, rfl⟩
      have hrd : rd ns (k : Int) = n := by rw [hn]; unfold rd; rw [Int.toNat_natCast]; simp [List.getD_eq_getElem?_getD, List.getElem?_eq_getElem hlt]
      rw [hrd, Int.toNat_natCast] at hcell
      have hwn := HW0.out n (by rw [hn]; exact List.getElem_mem _)
      have x0 := up_cell hR.out.B hcell
      have HTK := Aside0.mk (show nB (ns.take (k + 1)) = nB (ns.take k) ++ leb n.toNat by rw [hn]; exact fm_take _ ns k hlt)
      have HNB := Aside0.mk hwn
      subst hA1
      clear hn hrd hwn hcell
      go_wp2_with fail
      refine (put7 hR.out n HNB.out.1 HNB.out.2 (by have := LN.out k; omega)).mono ?_
      rintro e w2 ⟨v7, rfl, hr⟩
      have HR2 := Aside0.mk hr
      clear hR hr x0
      go_wp2_with fail
      refine (putc w2 n HNB.out.1 HNB.out.2).mono ?_
      rintro e w3 ⟨Ap, cp, rfl, hcp, hCp, hbp⟩
      have HR3 := Aside0.mk (HR2.out.below hbp)
      have HCp := Aside0.mk hCp
      have h10 := Aside0.mk (show (leb n.toNat).length ≤ 10 from leb_ten (by have := HNB.out; omega))
      clear HR2 hCp hbp hcp
      go_wp2_with (at_builtin; refine Kd.R_append_row (w0 := w) (Value.int .u8) (0 : Int) (h1 := fun _ => rfl) w.heap.size rfl (.tmp 48) (.tmp 50) 24 5 (.int .u8 0) 1 rfl Try.underlying24 info5 rfl (by decide) _ (nB (ns.take k)) (leb n.toNat) Ap _ cp (fun _ => True) rfl rfl (fun _ _ => trivial) HR3.out.r8 HCp.out HR3.out.B HR3.out.B.size (by have h1 := LN.out k; have h2 := h10.out; omega) ?_; intro vq_ wq_ hR hB hg hat; have HR4 := Aside0.mk (HR3.out.grown hR hB hg hat); clear hR hB hg hat HR3 HCp)
      go_roundw
      case rel => exact ⟨k + 1, hlt, by go_num, ⟨by rw [HTK.out]; exact HR4.out⟩⟩
      case measure => simp [intOf]; omega
    · obtain rfl : k = ns.length := by omega
      have HR := Aside0.mk (show Rows2 w wr u7 u8 (nB ns ++ sB (ss.take 0)) (nB ns ++ sB (ss.take 0)) by have := hR.out; rw [List.take_length] at this; simpa [sB] using this)
      have LN2 := Aside0.mk (show (nB ns).length ≤ 200 by have := LN.out ns.length; rwa [List.take_length] at this)
      clear hR LN hk hlt
      go_wp2
      go_loopw [7, 8, 55] (fun v7 v8 i wr => ∃ k : Nat, k ≤ ss.length ∧ i = .int .i64 k ∧ Aside0 (Rows2 w wr v7 v8 (nB ns ++ sB (ss.take k)) (nB ns ++ sB (ss.take k)) ∧ ∀ x ∈ ss.take k, x.size ≤ 200)) (fun _ _ i _ => ss.length - (intOf i).toNat)
      case atStart => exact ⟨0, Nat.zero_le _, rfl, ⟨HR.out, fun x hx => by simp at hx⟩⟩
      case round =>
        obtain ⟨k, hk, rfl, hR⟩ := hrel
        clear HR
        by_cases hlt : k < ss.length
        · obtain ⟨ad, hA1, hcell⟩ := Kd.at_string HS.out (k : Int) (by omega) (by omega)
          obtain ⟨s, hs⟩ : ∃ n, n = ss[k] := ⟨_, rfl⟩
          have hrd : rdOf ByteArray.empty ss (k : Int) = s := by rw [hs]; unfold rdOf; rw [Int.toNat_natCast]; simp [List.getD_eq_getElem?_getD, List.getElem?_eq_getElem hlt]
          rw [hrd, Int.toNat_natCast] at hcell
          have x0 := up_cell hR.out.1.B hcell
          have HTK := Aside0.mk (show sB (ss.take (k + 1)) = sB (ss.take k) ++ textN s by rw [hs]; exact fm_take _ ss k hlt)
          have HTM := Aside0.mk (show ss.take (k + 1) = ss.take k ++ [s] by rw [hs]; exact List.take_succ_eq_append_getElem hlt)
          have LS := Aside0.mk (show (sB (ss.take k)).length ≤ 4200 from by
            have h := fm_len textN 210 (ss.take k) (fun x hx => by have h1 := hR.out.2 x hx; have h2 := leb_ten (n := x.size) (by omega); unfold textN; rw [List.length_append, length_bytes]; omega)
            have h2 : (ss.take k).length ≤ ss.length := List.length_take_le' ..
            show (List.flatMap _ _).length ≤ 4200
            omega)
          subst hA1
          clear hs hrd hcell
          by_cases hz : 200 < s.size
          · have z1 : decide (200 < s.size) = true := decide_eq_true hz
            have z2 : decide ((200 : Int) < (s.size : Int)) = true := decide_eq_true (by omega)
            have HBB := Aside0.mk hR.out.1.B
            clear hz hR
            go_wp2
            go_ret
            exact ⟨rfl, HBB.out⟩
          · have z1 : decide (200 < s.size) = false := decide_eq_false hz
            have z2 : decide ((200 : Int) < (s.size : Int)) = false := decide_eq_false (by omega)
            have hz2 := Aside0.mk (show s.size ≤ 200 by omega)
            have hz3 : s.size ≤ 200 := by omega
            have HSZ := Aside0.mk hR.out.2
            clear hz
            go_wp2_with fail
            refine (text7 hR.out.1 s (by omega) (by rw [List.length_append]; have := LN2.out; have := LS.out; omega)).mono ?_
            rintro e w2 ⟨v7, rfl, hr⟩
            have HR2 := Aside0.mk hr
            clear hR hr x0
            go_wp2_with fail
            refine (putc w2 (s.size : Int) (by omega) (by omega)).mono ?_
            rintro e w3 ⟨Ap, cp, rfl, hcp, hCp, hbp⟩
            simp only [Int.toNat_natCast] at hcp hCp ⊢
            have HR3 := Aside0.mk (HR2.out.below hbp)
            have HCp := Aside0.mk hCp
            have h10 := Aside0.mk (show (leb s.size).length ≤ 10 from leb_ten (by have := hz2.out; omega))
            clear HR2 hCp hbp hcp
            go_wp2_with (first | (at_builtin; refine Kd.R_append_row (w0 := w) (Value.int .u8) (0 : Int) (h1 := fun _ => rfl) w.heap.size rfl (.tmp 65) (.tmp 69) 24 5 (.int .u8 0) 1 rfl Try.underlying24 info5 rfl (by decide) _ (nB ns ++ sB (ss.take k)) (leb s.size) Ap _ cp (fun _ => True) rfl rfl (fun _ _ => trivial) HR3.out.r8 HCp.out HR3.out.B HR3.out.B.size (by rw [List.length_append]; have h1 := LN2.out; have h2 := LS.out; have h3 := h10.out; omega) ?_; intro vq_ wq_ hR hB hg hat; have HR4 := Aside0.mk (HR3.out.grown hR hB hg hat); clear hR hB hg hat HR3 HCp) | (at_builtin; refine R_append_str (w0 := w) w.heap.size rfl (.tmp 70) (.tmp 71) 24 9 5 rfl Try.underlying24 Try.underlying9 info5 _ ((nB ns ++ sB (ss.take k)) ++ leb s.size) s (fun _ => True) rfl rfl HR4.out.r8 (fun _ _ => trivial) HR4.out.B HR4.out.B.size (by rw [List.length_append, List.length_append]; have h1 := LN2.out; have h2 := LS.out; have h3 := h10.out; have h4 := hz2.out; omega) ?_; intro vq_ wq_ hR hB hg hat; have HR5 := Aside0.mk (HR4.out.grown hR hB hg hat); clear hR hB hg hat HR4))
            have HR6 := Aside0.mk (show Rows2 w _ v7 _ (nB ns ++ sB (ss.take (k + 1))) (nB ns ++ sB (ss.take (k + 1))) by
              have h_ := HR5.out
              rw [List.append_assoc (nB ns ++ sB (ss.take k)), show leb s.size ++ bytesOf s = textN s from rfl, List.append_assoc, ← HTK.out] at h_
              exact h_)
            have HSZ2 := Aside0.mk (show ∀ x ∈ ss.take (k + 1), x.size ≤ 200 from fun x hx => by
              rw [HTM.out] at hx
              rcases List.mem_append.1 hx with h1 | h1
              · exact HSZ.out x h1
              · rw [List.mem_singleton.1 h1]; exact hz2.out)
            clear HR5
            go_roundw
            case rel => exact ⟨k + 1, hlt, by go_num, ⟨HR6.out, HSZ2.out⟩⟩
            case measure => simp [intOf]; omega
        · obtain rfl : k = ss.length := by omega
          have HSZ := Aside0.mk (show ∀ x ∈ ss, x.size ≤ 200 by have := hR.out.2; rwa [List.take_length] at this)
          have HR := Aside0.mk (show Rows2 w wr u7 u8 ((nB ns ++ sB ss) ++ tB (ts.take 0)) ((nB ns ++ sB ss) ++ tB (ts.take 0)) by have := hR.out.1; rw [List.take_length] at this; simpa [tB] using this)
          have LN3 := Aside0.mk (show (nB ns ++ sB ss).length ≤ 4400 from by
            have h := fm_len textN 210 ss (fun x hx => by have h1 := HSZ.out x hx; have h2 := leb_ten (n := x.size) (by omega); unfold textN; rw [List.length_append, length_bytes]; omega)
            have h2 := LN2.out
            rw [List.length_append]
            have h3 : (sB ss).length ≤ 4200 := by show (List.flatMap _ _).length ≤ 4200; omega
            omega)
          obtain ⟨B0, hB0⟩ : ∃ l, l = nB ns ++ sB ss := ⟨_, rfl⟩
          rw [← hB0] at HR LN3
          have HB0 := Aside0.mk hB0
          clear hR hk hlt hB0 LN2
          go_wp2
          go_loopw [7, 8, 76] (fun v7 v8 i wr => ∃ k : Nat, k ≤ ts.length ∧ i = .int .i64 k ∧ Aside0 (Rows2 w wr v7 v8 (B0 ++ tB (ts.take k)) (B0 ++ tB (ts.take k)) ∧ ∀ x ∈ ts.take k, TidIn x)) (fun _ _ i _ => ts.length - (intOf i).toNat)
          case atStart => exact ⟨0, Nat.zero_le _, rfl, ⟨HR.out, fun x hx => by simp at hx⟩⟩
          case round =>
            obtain ⟨k, hk, rfl, hR⟩ := hrel
            clear HR
            by_cases hlt : k < ts.length
            · obtain ⟨ad, hA1, d0, d1⟩ := tid_at HT.out k hlt
              obtain ⟨m, n, hmn⟩ : ∃ m n, (m, n) = ts[k] := ⟨ts[k].1, ts[k].2, rfl⟩
              rw [← hmn] at d0 d1
              have x0 := up_cell hR.out.1.B d0
              have x1 := up_cell hR.out.1.B d1
              have hm0 : 0 ≤ m ∧ m ≤ 18446744073709551615 := by have := HW2.out ts[k] (List.getElem_mem _); rw [← hmn] at this; exact this
              have HTK := Aside0.mk (show tB (ts.take (k + 1)) = tB (ts.take k) ++ tN (m, n) by rw [hmn]; exact fm_take _ ts k hlt)
              have HTM := Aside0.mk (show ts.take (k + 1) = ts.take k ++ [(m, n)] by rw [hmn]; exact List.take_succ_eq_append_getElem hlt)
              have LN4 := Aside0.mk (show (B0 ++ tB (ts.take k)).length ≤ 4800 from by
                have h := fm_len tN 20 (ts.take k) (fun x hx => by have h1 := hR.out.2 x hx; unfold TidIn at h1; have h2 := leb_ten (n := x.1.toNat) (by omega); have h3 := leb_ten (n := x.2.toNat) (by omega); unfold tN; rw [List.length_append]; omega)
                have h2 : (ts.take k).length ≤ ts.length := List.length_take_le' ..
                have h3 : (tB (ts.take k)).length ≤ 400 := by show (List.flatMap _ _).length ≤ 400; omega
                rw [List.length_append]
                have := LN3.out
                omega)
              subst hA1
              clear hmn d0 d1
              by_cases hin : m ≤ 1099511627776 ∧ 0 ≤ n ∧ n < 64
              · obtain ⟨i1, i2, i3⟩ := hin
                have z1 : decide (1099511627776 < m) = false := decide_eq_false (by omega)
                have z2 : decide (n < 0) = false := decide_eq_false (by omega)
                have z3 : decide (64 ≤ n) = false := decide_eq_false (by omega)
                have HMN := Aside0.mk (show 0 ≤ m ∧ m ≤ 18446744073709551615 ∧ 0 ≤ n ∧ n < 64 from ⟨hm0.1, hm0.2, i2, i3⟩)
                have HIN := Aside0.mk (show TidIn (m, n) from ⟨hm0.1, i1, i2, i3⟩)
                go_upto_region 24 with fail
                obtain ⟨KB, hKB⟩ : ∃ x : Nat, x = wr.heap.size := ⟨_, rfl⟩
                have BX := Aside0.mk (blk_new wr (.cells #[.int .u64 m, .int .i64 n] 28 (0, 0)))
                have HR2 := Aside0.mk (hR.out.1.below (below_alloc (Below.refl _ _) (.cells #[.int .u64 m, .int .i64 n] 28 (0, 0))))
                have HSM := Aside0.mk hR.out.2
                have hu := Aside0.mk (show ∀ k, u8.ownBlock = some k → k < KB from fun k hk => by rw [hKB]; exact Kd.R_lt hR.out.1.r8 k hk)
                have hu7 := Aside0.mk (show ∀ k, u7.ownBlock = some k → k < KB from fun k hk => by rw [hKB]; exact Kd.R_lt hR.out.1.r7 k hk)
                rw [← hKB] at BX ⊢
                generalize wr.alloc _ = wx at BX HR2 ⊢
                clear hKB hR x0 x1
                have y0 : wx.cell? ⟨KB, 0, none⟩ = some (.int .u64 m) := (blk_cell BX.out 0).trans rfl
                have y1 : wx.cell? ⟨KB, 1, none⟩ = some (.int .i64 n) := (blk_cell BX.out 1).trans rfl
                go_wp2_with fail
                refine (tid7 HR2.out m n HMN.out.1 i1 i2 i3 (by have := LN4.out; omega)).mono ?_
                rintro e wa ⟨v7, rfl, hr, hb⟩
                have F0 := Aside0.mk hr
                have BX2 := Aside0.mk ((hb KB (blk_lt BX.out) (fun he => by have := hu7.out KB he; omega)).trans BX.out)
                have SZ := Aside0.mk (Nat.le_refl wa.heap.size)
                have hu8 := Aside0.mk (show ∀ k, u8.ownBlock = some k → k < wa.heap.size from fun k hk => Kd.R_lt hr.r8 k hk)
                have hKB := Aside0.mk (show ∀ k, u8.ownBlock = some k → k < KB from hu.out)
                have h10m := Aside0.mk (show (leb m.toNat).length ≤ 10 from leb_ten (by have := HMN.out; omega))
                have h10n := Aside0.mk (show (leb n.toNat).length ≤ 10 from leb_ten (by have := HMN.out; omega))
                have HWR := Aside0.mk (show IntKind.u64.wrap n = n by have := HMN.out; simp [IntKind.wrap, IntKind.bits, IntKind.signed]; omega)
                clear hr hb BX HR2 y0 y1 hu hu7 i1 i2 i3 hm0
                have BX := BX2
                clear BX2
                go_upto_region 27 with fail
                refine start_ (n := 11) (S := fun w' => True) (ds := []) #[false, false, false, false, false, false, false, false, false, false, false] (by kernel_rfl) rfl rfl trivial (fun hHeld => ?_)
                refine with_tabW np27.tab27 np27.bits27 (fun HT_ HW_ => ?_)
                have n0_ := Aside0.mk (F0.out.below (below_drew (Below.refl _ _)))
                have n1_ := Aside0.mk (blk_drew BX.out)
                have n2_ := Aside0.mk (show wa.heap.size ≤ (World.drew _).heap.size from SZ.out)
                clear F0 BX SZ
                generalize World.drew _ = wd at n0_ n1_ n2_ hHeld ⊢
                have F0 := n0_
                have BX := n1_
                have SZ := n2_
                clear hHeld n0_ n1_ n2_
                refine inv_at [0, 1, 2, 3, 4, 5, 6, 7, 8, 9, 10] (fun a0_ b a w' => ∃ (A3 : Option Addr) (c3 : Nat) (A8 : Option Addr) (c8 : Nat) (V4 : Value) (V9 : Value) (m3_ : Value) (m8_ : Value) (m10_ : Value), a = putSel a0_ b [(0, 96, u8), (1, 97, .pointer (some ⟨KB, 0, none⟩)), (2, 98, .int .u64 m), (3, 99, m3_), (4, 100, V4), (5, 101, .pointer (some ⟨KB, 1, none⟩)), (6, 102, .int .i64 n), (7, 103, .int .u64 n), (8, 104, m8_), (9, 105, V9), (10, 8, m10_)] ∧ (b 4 = false → Rows2 w w' v7 u8 ((B0 ++ tB (ts.take k)) ++ tN (m, n)) (B0 ++ tB (ts.take k))) ∧ (b 4 = true → b 9 = false → Rows2 w w' v7 V4 ((B0 ++ tB (ts.take k)) ++ tN (m, n)) ((B0 ++ tB (ts.take k)) ++ (leb m.toNat))) ∧ (b 9 = true → Rows2 w w' v7 V9 ((B0 ++ tB (ts.take k)) ++ tN (m, n)) (((B0 ++ tB (ts.take k)) ++ (leb m.toNat)) ++ (leb n.toNat))) ∧ (b 3 = true → b 4 = false → (Kd.int .u8).R 5 w' wa.heap.size (fun _ => True) (.slice A3 (leb m.toNat).length c3) (leb m.toNat)) ∧ (b 8 = true → b 9 = false → (Kd.int .u8).R 5 w' wa.heap.size (fun _ => True) (.slice A8 (leb n.toNat).length c8) (leb n.toNat)) ∧ (b 4 = true → b 8 = true → b 9 = false → ∀ k, V4.ownBlock = some k → (Value.slice A8 (leb n.toNat).length c8).ownBlock ≠ some k) ∧ (w'.heap[KB]? = some (.cells #[.int .u64 m, .int .i64 n] 28 (0, 0))) ∧ (wa.heap.size ≤ w'.heap.size) ∧ (b 3 = true → (m3_ : Value) = .slice A3 (leb m.toNat).length c3) ∧ (b 8 = true → (m8_ : Value) = .slice A8 (leb n.toNat).length c8) ∧ (b 10 = true → (m10_ : Value) = V9)) HT_.out HW_.out (by kernel_rfl) (by kernel_rfl) ?_ ?_ ?_
                · exact ⟨none, 0, none, 0, (.slice none 0 0), (.slice none 0 0), .bool false, .bool false, .bool false, by simp only [putSel, Bool.false_eq_true, if_false], fun _ => F0.out, fun h_ => absurd h_ (by decide), fun h_ => absurd h_ (by decide), fun h_ => absurd h_ (by decide), fun h_ => absurd h_ (by decide), fun h_ => absurd h_ (by decide), BX.out, SZ.out, fun h_ => absurd h_ (by decide), fun h_ => absurd h_ (by decide), fun h_ => absurd h_ (by decide)⟩
                · skip
                  clear BX F0 SZ
                  refine steps_cons ?_ ?_
                  · rintro b a w' ⟨A3, c3, A8, c8, V4, V9, m3_, m8_, m10_, ha, Q_F0, Q_F4, Q_F9, Q_R3, Q_R8, Q_D8, Q_BX, Q_SZ, Q_X3_, Q_X8_, Q_X10_⟩ hb_ hon hoff
                    refine ⟨_, rfl, fun K hK => ?_⟩
                    have e8 : a.tmps[8]? = some (u8) := by rw [ha]; exact (putSel_not (hoff 10 (by kernel_rfl)) rfl).trans rfl
                    replace ha := Aside0.mk ha
                    have F0 := Aside0.mk (Q_F0 (hoff 4 (by kernel_rfl)))
                    have BX := Aside0.mk Q_BX
                    have SZ := Aside0.mk Q_SZ
                    refine value_ (w1 := w') (v := u8) (by rfl) rfl ?_ ?_
                    · go_simp
                      (try simp only [i64_w])
                      try rfl
                    refine hK.out _ _ ⟨A3, c3, A8, c8, V4, V9, m3_, m8_, m10_, (by rw [ha.out]; exact putSel_upk 0 hb_ rfl rfl rfl), Q_F0, fun h0_ _ => absurd ((hoff 4 (by kernel_rfl)).symm.trans h0_) (by decide), fun h0_ => absurd ((hoff 9 (by kernel_rfl)).symm.trans h0_) (by decide), Q_R3, fun h0_ _ => absurd ((hoff 8 (by kernel_rfl)).symm.trans h0_) (by decide), fun h0_ _ _ => absurd ((hoff 4 (by kernel_rfl)).symm.trans h0_) (by decide), Q_BX, Q_SZ, Q_X3_, fun h0_ => absurd ((hoff 8 (by kernel_rfl)).symm.trans h0_) (by decide), fun h0_ => absurd ((hoff 10 (by kernel_rfl)).symm.trans h0_) (by decide)⟩
                  refine steps_cons ?_ ?_
                  · rintro b a w' ⟨A3, c3, A8, c8, V4, V9, m3_, m8_, m10_, ha, Q_F0, Q_F4, Q_F9, Q_R3, Q_R8, Q_D8, Q_BX, Q_SZ, Q_X3_, Q_X8_, Q_X10_⟩ hb_ hon hoff
                    refine ⟨_, rfl, fun K hK => ?_⟩
                    have e14 : a.tmps[14]? = some (.pointer (some ⟨KB, 0, none⟩)) := by rw [ha]; exact (putSel_off rfl).trans rfl
                    replace ha := Aside0.mk ha
                    have F0 := Aside0.mk (Q_F0 (hoff 4 (by kernel_rfl)))
                    have BX := Aside0.mk Q_BX
                    have SZ := Aside0.mk Q_SZ
                    refine value_ (w1 := w') (v := .pointer (some ⟨KB, 0, none⟩)) (by rfl) rfl ?_ ?_
                    · go_simp
                      (try simp only [i64_w])
                      try rfl
                    refine hK.out _ _ ⟨A3, c3, A8, c8, V4, V9, m3_, m8_, m10_, (by rw [ha.out]; exact putSel_upk 1 hb_ rfl rfl rfl), Q_F0, fun h0_ _ => absurd ((hoff 4 (by kernel_rfl)).symm.trans h0_) (by decide), fun h0_ => absurd ((hoff 9 (by kernel_rfl)).symm.trans h0_) (by decide), fun h0_ _ => absurd ((hoff 3 (by kernel_rfl)).symm.trans h0_) (by decide), fun h0_ _ => absurd ((hoff 8 (by kernel_rfl)).symm.trans h0_) (by decide), fun h0_ _ _ => absurd ((hoff 4 (by kernel_rfl)).symm.trans h0_) (by decide), Q_BX, Q_SZ, fun h0_ => absurd ((hoff 3 (by kernel_rfl)).symm.trans h0_) (by decide), fun h0_ => absurd ((hoff 8 (by kernel_rfl)).symm.trans h0_) (by decide), fun h0_ => absurd ((hoff 10 (by kernel_rfl)).symm.trans h0_) (by decide)⟩
                  refine steps_cons ?_ ?_
                  · rintro b a w' ⟨A3, c3, A8, c8, V4, V9, m3_, m8_, m10_, ha, Q_F0, Q_F4, Q_F9, Q_R3, Q_R8, Q_D8, Q_BX, Q_SZ, Q_X3_, Q_X8_, Q_X10_⟩ hb_ hon hoff
                    refine ⟨_, rfl, fun K hK => ?_⟩
                    have e97 : a.tmps[97]? = some (.pointer (some ⟨KB, 0, none⟩)) := by rw [ha]; exact putSel_on (e := (1, 97, .pointer (some ⟨KB, 0, none⟩))) 1 rfl rfl (hon 1 (by kernel_rfl)) rfl
                    replace ha := Aside0.mk ha
                    have F0 := Aside0.mk (Q_F0 (hoff 4 (by kernel_rfl)))
                    have BX := Aside0.mk Q_BX
                    have SZ := Aside0.mk Q_SZ
                    have hc_ : w'.cell? ⟨KB, 0, none⟩ = some (.int .u64 m) := (blk_cell BX.out 0).trans rfl
                    refine value_ (w1 := w') (v := .int .u64 m) (by rfl) rfl ?_ ?_
                    · go_simp
                      (try simp only [i64_w])
                      try rfl
                    refine hK.out _ _ ⟨A3, c3, A8, c8, V4, V9, m3_, m8_, m10_, (by rw [ha.out]; exact putSel_upk 2 hb_ rfl rfl rfl), Q_F0, fun h0_ _ => absurd ((hoff 4 (by kernel_rfl)).symm.trans h0_) (by decide), fun h0_ => absurd ((hoff 9 (by kernel_rfl)).symm.trans h0_) (by decide), fun h0_ _ => absurd ((hoff 3 (by kernel_rfl)).symm.trans h0_) (by decide), fun h0_ _ => absurd ((hoff 8 (by kernel_rfl)).symm.trans h0_) (by decide), fun h0_ _ _ => absurd ((hoff 4 (by kernel_rfl)).symm.trans h0_) (by decide), Q_BX, Q_SZ, fun h0_ => absurd ((hoff 3 (by kernel_rfl)).symm.trans h0_) (by decide), fun h0_ => absurd ((hoff 8 (by kernel_rfl)).symm.trans h0_) (by decide), fun h0_ => absurd ((hoff 10 (by kernel_rfl)).symm.trans h0_) (by decide)⟩
                  refine steps_cons ?_ ?_
                  · rintro b a w' ⟨A3, c3, A8, c8, V4, V9, m3_, m8_, m10_, ha, Q_F0, Q_F4, Q_F9, Q_R3, Q_R8, Q_D8, Q_BX, Q_SZ, Q_X3_, Q_X8_, Q_X10_⟩ hb_ hon hoff
                    refine ⟨_, rfl, fun K hK => ?_⟩
                    have e98 : a.tmps[98]? = some (.int .u64 m) := by rw [ha]; exact putSel_on (e := (2, 98, .int .u64 m)) 2 rfl rfl (hon 2 (by kernel_rfl)) rfl
                    replace ha := Aside0.mk ha
                    have F0 := Aside0.mk (Q_F0 (hoff 4 (by kernel_rfl)))
                    have BX := Aside0.mk Q_BX
                    have SZ := Aside0.mk Q_SZ
                    refine goes_ Try.func30 (by kernel_rfl) rfl #[.int .u64 m] (by rfl) rfl rfl (by first | (simp only [List.map_toArray, List.map_cons, List.map_nil, Act.eval, Array.getD_eq_getD_getElem?, Option.getD_some, e98]; done) | (simp only [List.map_toArray, List.map_cons, List.map_nil, Act.eval, Array.getD_eq_getD_getElem?, Option.getD_some, e98]; rfl)) ?_
                    refine (putc2 w' m HMN.out.1 HMN.out.2.1 wa SZ.out).mono ?_
                    rintro e_ wn_ ⟨Ap_, cp_, rfl, hr_, hbw_, _⟩
                    refine ⟨_, rfl, ?_⟩
                    refine hK.out _ _ ⟨Ap_, cp_, A8, c8, V4, V9, (.slice Ap_ (leb m.toNat).length cp_), m8_, m10_, (by rw [ha.out]; exact putSel_upk 3 hb_ rfl rfl rfl), fun _ => (F0.out.below hbw_), fun h0_ _ => absurd ((hoff 4 (by kernel_rfl)).symm.trans h0_) (by decide), fun h0_ => absurd ((hoff 9 (by kernel_rfl)).symm.trans h0_) (by decide), fun _ _ => hr_, fun h0_ _ => absurd ((hoff 8 (by kernel_rfl)).symm.trans h0_) (by decide), fun h0_ _ _ => absurd ((hoff 4 (by kernel_rfl)).symm.trans h0_) (by decide), ((hbw_.block KB (blk_lt BX.out)).trans BX.out), (Nat.le_trans SZ.out hbw_.size), fun _ => rfl, fun h0_ => absurd ((hoff 8 (by kernel_rfl)).symm.trans h0_) (by decide), fun h0_ => absurd ((hoff 10 (by kernel_rfl)).symm.trans h0_) (by decide)⟩
                  refine steps_cons ?_ ?_
                  · rintro b a w' ⟨A3, c3, A8, c8, V4, V9, m3_, m8_, m10_, ha, Q_F0, Q_F4, Q_F9, Q_R3, Q_R8, Q_D8, Q_BX, Q_SZ, Q_X3_, Q_X8_, Q_X10_⟩ hb_ hon hoff
                    refine ⟨_, rfl, fun K hK => ?_⟩
                    have e96 : a.tmps[96]? = some (u8) := by rw [ha]; exact putSel_on (e := (0, 96, u8)) 0 rfl rfl (hon 0 (by kernel_rfl)) rfl
                    have e99 : a.tmps[99]? = some (m3_) := by rw [ha]; exact putSel_on (e := (3, 99, m3_)) 3 rfl rfl (hon 3 (by kernel_rfl)) rfl
                    rw [Q_X3_ (hon 3 (by kernel_rfl))] at e99
                    replace ha := Aside0.mk ha
                    have F0 := Aside0.mk (Q_F0 hb_)
                    have R3 := Aside0.mk (Q_R3 (hon 3 (by kernel_rfl)) hb_)
                    have BX := Aside0.mk Q_BX
                    have SZ := Aside0.mk Q_SZ
                    refine Kd.R_append_rows_step (Kd.int .u8) (w0 := w) w.heap.size (by rfl) (.tmp 96) (.tmp 99) 24 5 (.int .u8 0) 1 rfl Try.underlying24 info5 rfl (by decide) (by decide) _ (B0 ++ tB (ts.take k)) (leb m.toNat) A3 _ c3 (fun _ => True) (fun _ => False) (by first | (simp only [Act.eval, Array.getD_eq_getD_getElem?, Option.getD_some, e96]; done) | (simp only [Act.eval, Array.getD_eq_getD_getElem?, Option.getD_some, e96]; rfl)) (by first | (simp only [Act.eval, Array.getD_eq_getD_getElem?, Option.getD_some, e99]; done) | (simp only [Act.eval, Array.getD_eq_getD_getElem?, Option.getD_some, e99]; rfl)) F0.out.r8 (Kd.R_reads' R3.out).2.2 (fun _ _ h => h) (fun _ h => h.elim) (fun _ _ => trivial) F0.out.B F0.out.B.size (by have h1 := LN4.out; have h2 := h10m.out; omega) ?_
                    intro v_ w_ hR_ hB_ hg_ hat_
                    refine hK.out _ _ ⟨A3, c3, A8, c8, v_, V9, m3_, m8_, m10_, (by rw [ha.out]; exact putSel_upk 4 hb_ rfl rfl rfl), fun h0_ => absurd ((up_self b 4).symm.trans h0_) (by decide), fun _ _ => (F0.out.grown hR_ hB_ hg_ hat_), fun h0_ => absurd ((hoff 9 (by kernel_rfl)).symm.trans h0_) (by decide), fun _ h1_ => absurd ((up_self b 4).symm.trans h1_) (by decide), fun h0_ _ => absurd ((hoff 8 (by kernel_rfl)).symm.trans h0_) (by decide), fun _ h1_ _ => absurd ((hoff 8 (by kernel_rfl)).symm.trans h1_) (by decide), ((hg_.block KB (blk_lt BX.out) (fun he => by have := hKB.out KB he.symm; omega)).trans BX.out), (Nat.le_trans SZ.out hg_.size), Q_X3_, fun h0_ => absurd ((hoff 8 (by kernel_rfl)).symm.trans h0_) (by decide), fun h0_ => absurd ((hoff 10 (by kernel_rfl)).symm.trans h0_) (by decide)⟩
                  refine steps_cons ?_ ?_
                  · rintro b a w' ⟨A3, c3, A8, c8, V4, V9, m3_, m8_, m10_, ha, Q_F0, Q_F4, Q_F9, Q_R3, Q_R8, Q_D8, Q_BX, Q_SZ, Q_X3_, Q_X8_, Q_X10_⟩ hb_ hon hoff
                    refine ⟨_, rfl, fun K hK => ?_⟩
                    have e14 : a.tmps[14]? = some (.pointer (some ⟨KB, 0, none⟩)) := by rw [ha]; exact (putSel_off rfl).trans rfl
                    replace ha := Aside0.mk ha
                    have BX := Aside0.mk Q_BX
                    have SZ := Aside0.mk Q_SZ
                    refine value_ (w1 := w') (v := .pointer (some ⟨KB, 1, none⟩)) (by rfl) rfl ?_ ?_
                    · go_simp
                      (try simp only [i64_w])
                      try rfl
                    refine hK.out _ _ ⟨A3, c3, A8, c8, V4, V9, m3_, m8_, m10_, (by rw [ha.out]; exact putSel_upk 5 hb_ rfl rfl rfl), Q_F0, Q_F4, fun h0_ => absurd ((hoff 9 (by kernel_rfl)).symm.trans h0_) (by decide), Q_R3, fun h0_ _ => absurd ((hoff 8 (by kernel_rfl)).symm.trans h0_) (by decide), fun _ h1_ _ => absurd ((hoff 8 (by kernel_rfl)).symm.trans h1_) (by decide), Q_BX, Q_SZ, Q_X3_, fun h0_ => absurd ((hoff 8 (by kernel_rfl)).symm.trans h0_) (by decide), fun h0_ => absurd ((hoff 10 (by kernel_rfl)).symm.trans h0_) (by decide)⟩
                  refine steps_cons ?_ ?_
                  · rintro b a w' ⟨A3, c3, A8, c8, V4, V9, m3_, m8_, m10_, ha, Q_F0, Q_F4, Q_F9, Q_R3, Q_R8, Q_D8, Q_BX, Q_SZ, Q_X3_, Q_X8_, Q_X10_⟩ hb_ hon hoff
                    refine ⟨_, rfl, fun K hK => ?_⟩
                    have e101 : a.tmps[101]? = some (.pointer (some ⟨KB, 1, none⟩)) := by rw [ha]; exact putSel_on (e := (5, 101, .pointer (some ⟨KB, 1, none⟩))) 5 rfl rfl (hon 5 (by kernel_rfl)) rfl
                    replace ha := Aside0.mk ha
                    have BX := Aside0.mk Q_BX
                    have SZ := Aside0.mk Q_SZ
                    have hc_ : w'.cell? ⟨KB, 1, none⟩ = some (.int .i64 n) := (blk_cell BX.out 1).trans rfl
                    refine value_ (w1 := w') (v := .int .i64 n) (by rfl) rfl ?_ ?_
                    · go_simp
                      (try simp only [i64_w])
                      try rfl
                    refine hK.out _ _ ⟨A3, c3, A8, c8, V4, V9, m3_, m8_, m10_, (by rw [ha.out]; exact putSel_upk 6 hb_ rfl rfl rfl), Q_F0, Q_F4, fun h0_ => absurd ((hoff 9 (by kernel_rfl)).symm.trans h0_) (by decide), Q_R3, fun h0_ _ => absurd ((hoff 8 (by kernel_rfl)).symm.trans h0_) (by decide), fun _ h1_ _ => absurd ((hoff 8 (by kernel_rfl)).symm.trans h1_) (by decide), Q_BX, Q_SZ, Q_X3_, fun h0_ => absurd ((hoff 8 (by kernel_rfl)).symm.trans h0_) (by decide), fun h0_ => absurd ((hoff 10 (by kernel_rfl)).symm.trans h0_) (by decide)⟩
                  refine steps_cons ?_ ?_
                  · rintro b a w' ⟨A3, c3, A8, c8, V4, V9, m3_, m8_, m10_, ha, Q_F0, Q_F4, Q_F9, Q_R3, Q_R8, Q_D8, Q_BX, Q_SZ, Q_X3_, Q_X8_, Q_X10_⟩ hb_ hon hoff
                    refine ⟨_, rfl, fun K hK => ?_⟩
                    have e102 : a.tmps[102]? = some (.int .i64 n) := by rw [ha]; exact putSel_on (e := (6, 102, .int .i64 n)) 6 rfl rfl (hon 6 (by kernel_rfl)) rfl
                    replace ha := Aside0.mk ha
                    have BX := Aside0.mk Q_BX
                    have SZ := Aside0.mk Q_SZ
                    have hwr_ := HWR.out
                    refine value_ (w1 := w') (v := .int .u64 n) (by rfl) rfl ?_ ?_
                    · go_simp
                      (try simp only [i64_w])
                      try rfl
                    refine hK.out _ _ ⟨A3, c3, A8, c8, V4, V9, m3_, m8_, m10_, (by rw [ha.out]; exact putSel_upk 7 hb_ rfl rfl rfl), Q_F0, Q_F4, fun h0_ => absurd ((hoff 9 (by kernel_rfl)).symm.trans h0_) (by decide), Q_R3, fun h0_ _ => absurd ((hoff 8 (by kernel_rfl)).symm.trans h0_) (by decide), fun _ h1_ _ => absurd ((hoff 8 (by kernel_rfl)).symm.trans h1_) (by decide), Q_BX, Q_SZ, Q_X3_, fun h0_ => absurd ((hoff 8 (by kernel_rfl)).symm.trans h0_) (by decide), fun h0_ => absurd ((hoff 10 (by kernel_rfl)).symm.trans h0_) (by decide)⟩
                  refine steps_cons ?_ ?_
                  · rintro b a w' ⟨A3, c3, A8, c8, V4, V9, m3_, m8_, m10_, ha, Q_F0, Q_F4, Q_F9, Q_R3, Q_R8, Q_D8, Q_BX, Q_SZ, Q_X3_, Q_X8_, Q_X10_⟩ hb_ hon hoff
                    refine ⟨_, rfl, fun K hK => ?_⟩
                    have e103 : a.tmps[103]? = some (.int .u64 n) := by rw [ha]; exact putSel_on (e := (7, 103, .int .u64 n)) 7 rfl rfl (hon 7 (by kernel_rfl)) rfl
                    replace ha := Aside0.mk ha
                    have F4 := Aside0.mk (Q_F4 (hon 4 (by kernel_rfl)) (hoff 9 (by kernel_rfl)))
                    have BX := Aside0.mk Q_BX
                    have SZ := Aside0.mk Q_SZ
                    refine goes_ Try.func30 (by kernel_rfl) rfl #[.int .u64 n] (by rfl) rfl rfl (by first | (simp only [List.map_toArray, List.map_cons, List.map_nil, Act.eval, Array.getD_eq_getD_getElem?, Option.getD_some, e103]; done) | (simp only [List.map_toArray, List.map_cons, List.map_nil, Act.eval, Array.getD_eq_getD_getElem?, Option.getD_some, e103]; rfl)) ?_
                    refine (putc2 w' n HMN.out.2.2.1 (by have := HMN.out.2.2.2; omega) wa SZ.out).mono ?_
                    rintro e_ wn_ ⟨Ap_, cp_, rfl, hr_, hbw_, hnew_⟩
                    refine ⟨_, rfl, ?_⟩
                    refine hK.out _ _ ⟨A3, c3, Ap_, cp_, V4, V9, m3_, (.slice Ap_ (leb n.toNat).length cp_), m10_, (by rw [ha.out]; exact putSel_upk 8 hb_ rfl rfl rfl), fun h0_ => absurd ((hon 4 (by kernel_rfl)).symm.trans h0_) (by decide), fun _ _ => (F4.out.below hbw_), fun h0_ => absurd ((hoff 9 (by kernel_rfl)).symm.trans h0_) (by decide), fun _ h1_ => absurd ((hon 4 (by kernel_rfl)).symm.trans h1_) (by decide), fun _ _ => hr_, fun _ _ _ => (fun k hk he => by have h1_ := Kd.R_lt (F4.out).r8 k hk; have h2_ := hnew_ k he; omega), ((hbw_.block KB (blk_lt BX.out)).trans BX.out), (Nat.le_trans SZ.out hbw_.size), Q_X3_, fun _ => rfl, fun h0_ => absurd ((hoff 10 (by kernel_rfl)).symm.trans h0_) (by decide)⟩
                  refine steps_cons ?_ ?_
                  · rintro b a w' ⟨A3, c3, A8, c8, V4, V9, m3_, m8_, m10_, ha, Q_F0, Q_F4, Q_F9, Q_R3, Q_R8, Q_D8, Q_BX, Q_SZ, Q_X3_, Q_X8_, Q_X10_⟩ hb_ hon hoff
                    refine ⟨_, rfl, fun K hK => ?_⟩
                    have e100 : a.tmps[100]? = some (V4) := by rw [ha]; exact putSel_on (e := (4, 100, V4)) 4 rfl rfl (hon 4 (by kernel_rfl)) rfl
                    have e104 : a.tmps[104]? = some (m8_) := by rw [ha]; exact putSel_on (e := (8, 104, m8_)) 8 rfl rfl (hon 8 (by kernel_rfl)) rfl
                    rw [Q_X8_ (hon 8 (by kernel_rfl))] at e104
                    replace ha := Aside0.mk ha
                    have F4 := Aside0.mk (Q_F4 (hon 4 (by kernel_rfl)) hb_)
                    have R8 := Aside0.mk (Q_R8 (hon 8 (by kernel_rfl)) hb_)
                    have D8 := Aside0.mk (Q_D8 (hon 4 (by kernel_rfl)) (hon 8 (by kernel_rfl)) hb_)
                    have BX := Aside0.mk Q_BX
                    have SZ := Aside0.mk Q_SZ
                    have F4ne := Aside0.mk (show some KB ≠ V4.ownBlock from Kd.R_ne F4.out.r8 BX.out (by decide))
                    refine Kd.R_append_rows_step (Kd.int .u8) (w0 := w) w.heap.size (by rfl) (.tmp 100) (.tmp 104) 24 5 (.int .u8 0) 1 rfl Try.underlying24 info5 rfl (by decide) (by decide) _ ((B0 ++ tB (ts.take k)) ++ (leb m.toNat)) (leb n.toNat) A8 _ c8 (fun _ => True) (fun _ => False) (by first | (simp only [Act.eval, Array.getD_eq_getD_getElem?, Option.getD_some, e100]; done) | (simp only [Act.eval, Array.getD_eq_getD_getElem?, Option.getD_some, e100]; rfl)) (by first | (simp only [Act.eval, Array.getD_eq_getD_getElem?, Option.getD_some, e104]; done) | (simp only [Act.eval, Array.getD_eq_getD_getElem?, Option.getD_some, e104]; rfl)) F4.out.r8 (Kd.R_reads' R8.out).2.2 (fun _ _ h => h) (fun _ h => h.elim) (fun _ _ => trivial) F4.out.B F4.out.B.size (by rw [List.length_append]; have h1 := LN4.out; have h2 := h10m.out; have h3 := h10n.out; omega) ?_
                    intro v_ w_ hR_ hB_ hg_ hat_
                    refine hK.out _ _ ⟨A3, c3, A8, c8, V4, v_, m3_, m8_, m10_, (by rw [ha.out]; exact putSel_upk 9 hb_ rfl rfl rfl), fun h0_ => absurd ((hon 4 (by kernel_rfl)).symm.trans h0_) (by decide), fun _ h1_ => absurd ((up_self b 9).symm.trans h1_) (by decide), fun _ => (F4.out.grown hR_ hB_ hg_ hat_), fun _ h1_ => absurd ((hon 4 (by kernel_rfl)).symm.trans h1_) (by decide), fun _ h1_ => absurd ((up_self b 9).symm.trans h1_) (by decide), fun _ _ h2_ => absurd ((up_self b 9).symm.trans h2_) (by decide), ((hg_.block KB (blk_lt BX.out) (fun he => F4ne.out he)).trans BX.out), (Nat.le_trans SZ.out hg_.size), Q_X3_, Q_X8_, fun h0_ => absurd ((hoff 10 (by kernel_rfl)).symm.trans h0_) (by decide)⟩
                  refine steps_cons ?_ ?_
                  · rintro b a w' ⟨A3, c3, A8, c8, V4, V9, m3_, m8_, m10_, ha, Q_F0, Q_F4, Q_F9, Q_R3, Q_R8, Q_D8, Q_BX, Q_SZ, Q_X3_, Q_X8_, Q_X10_⟩ hb_ hon hoff
                    refine ⟨_, rfl, fun K hK => ?_⟩
                    have e105 : a.tmps[105]? = some (V9) := by rw [ha]; exact putSel_on (e := (9, 105, V9)) 9 rfl rfl (hon 9 (by kernel_rfl)) rfl
                    replace ha := Aside0.mk ha
                    have F9 := Aside0.mk (Q_F9 (hon 9 (by kernel_rfl)))
                    have BX := Aside0.mk Q_BX
                    have SZ := Aside0.mk Q_SZ
                    refine value_ (w1 := w') (v := V9) (by rfl) rfl ?_ ?_
                    · go_simp
                      (try simp only [i64_w])
                      try rfl
                    refine hK.out _ _ ⟨A3, c3, A8, c8, V4, V9, m3_, m8_, (V9), (by rw [ha.out]; exact putSel_upk 10 hb_ rfl rfl rfl), fun h0_ => absurd ((hon 4 (by kernel_rfl)).symm.trans h0_) (by decide), fun _ h1_ => absurd ((hon 9 (by kernel_rfl)).symm.trans h1_) (by decide), Q_F9, fun _ h1_ => absurd ((hon 4 (by kernel_rfl)).symm.trans h1_) (by decide), fun _ h1_ => absurd ((hon 9 (by kernel_rfl)).symm.trans h1_) (by decide), fun _ _ h2_ => absurd ((hon 9 (by kernel_rfl)).symm.trans h2_) (by decide), Q_BX, Q_SZ, Q_X3_, Q_X8_, fun _ => rfl⟩
                  exact steps_nil
                rintro b a w' hall ⟨A3, c3, A8, c8, V4, V9, m3_, m8_, m10_, ha, Q_F0, Q_F4, Q_F9, Q_R3, Q_R8, Q_D8, Q_BX, Q_SZ, Q_X3_, Q_X8_, Q_X10_⟩
                clear BX F0 SZ
                have hb0_ := hall 0 (by kernel_rfl)
                have hb1_ := hall 1 (by kernel_rfl)
                have hb2_ := hall 2 (by kernel_rfl)
                have hb3_ := hall 3 (by kernel_rfl)
                have hb4_ := hall 4 (by kernel_rfl)
                have hb5_ := hall 5 (by kernel_rfl)
                have hb6_ := hall 6 (by kernel_rfl)
                have hb7_ := hall 7 (by kernel_rfl)
                have hb8_ := hall 8 (by kernel_rfl)
                have hb9_ := hall 9 (by kernel_rfl)
                have hb10_ := hall 10 (by kernel_rfl)
                subst ha
                obtain rfl := Q_X3_ hb3_
                obtain rfl := Q_X8_ hb8_
                obtain rfl := Q_X10_ hb10_
                simp only [putSel, hb0_, hb1_, hb2_, hb3_, hb4_, hb5_, hb6_, hb7_, hb8_, hb9_, hb10_, if_true, Act.put, List.setIfInBounds_toArray, List.set_cons_zero, List.set_cons_succ]
                clear Q_F0
                clear Q_F4
                have F9 := Aside0.mk (Q_F9 hb9_)
                clear Q_F9
                clear Q_R3
                clear Q_R8
                clear Q_D8
                have BX := Aside0.mk Q_BX
                clear Q_BX
                have SZ := Aside0.mk Q_SZ
                clear Q_SZ
                clear hall hb0_ hb1_ hb2_ hb3_ hb4_ hb5_ hb6_ hb7_ hb8_ hb9_ hb10_
                have HR6 := Aside0.mk (show Rows2 w w' v7 _ (B0 ++ tB (ts.take (k + 1))) (B0 ++ tB (ts.take (k + 1))) by
                  have h_ := F9.out
                  rw [List.append_assoc (B0 ++ tB (ts.take k)) (leb m.toNat), show leb m.toNat ++ leb n.toNat = tN (m, n) from rfl, List.append_assoc, ← HTK.out] at h_
                  exact h_)
                have HSM2 := Aside0.mk (show ∀ x ∈ ts.take (k + 1), TidIn x from fun x hx => by
                  rw [HTM.out] at hx
                  rcases List.mem_append.1 hx with h1 | h1
                  · exact HSM.out x h1
                  · rw [List.mem_singleton.1 h1]; exact HIN.out)
                clear F9 BX SZ
                go_wp2
                go_roundw
                case rel => exact ⟨k + 1, hlt, by go_num, ⟨HR6.out, HSM2.out⟩⟩
                case measure => simp [intOf]; omega
              · have HBB := Aside0.mk hR.out.1.B
                have key : decide (1099511627776 < m) = true ∨ (decide (1099511627776 < m) = false ∧ decide (n < 0) = true) ∨ (decide (1099511627776 < m) = false ∧ decide (n < 0) = false ∧ decide (64 ≤ n) = true) := by
                  by_cases h1 : 1099511627776 < m
                  · exact .inl (decide_eq_true h1)
                  · by_cases h2 : n < 0
                    · exact .inr (.inl ⟨decide_eq_false h1, decide_eq_true h2⟩)
                    · exact .inr (.inr ⟨decide_eq_false h1, decide_eq_false h2, decide_eq_true (by omega)⟩)
                clear hin hm0 hR
                rcases key with z1 | ⟨z1, z2⟩ | ⟨z1, z2, z3⟩
                all_goals
                  go_wp2
                  go_ret
                  exact ⟨rfl, HBB.out.alloc HBB.out.size _⟩
            · obtain rfl : k = ts.length := by omega
              have HR := Aside0.mk (show Rows2 w wr u7 u8 (B0 ++ tB ts) (B0 ++ tB ts) by have := hR.out.1; rwa [List.take_length] at this)
              have HTI := Aside0.mk (show ∀ x ∈ ts, TidIn x by have := hR.out.2; rwa [List.take_length] at this)
              clear hR hk hlt
              obtain ⟨A7, q7, e7, hq7, hC7⟩ := Kd.R_reads HR.out.r7
              obtain ⟨A8, q8, e8, hq8, hC8⟩ := Kd.R_reads HR.out.r8
              subst e7 e8
              obtain ⟨L, hL⟩ : ∃ l, l = B0 ++ tB ts := ⟨_, rfl⟩
              rw [← hL] at hq7 hq8 hC7 hC8 HR
              rw [← hL]
              have HLE := Aside0.mk (show L = nB (ns.drop 0) ++ (sB ss ++ tB ts) by rw [hL, HB0.out]; simp)
              have HBY := Aside0.mk (show num_Read.f L = some ⟨L, 0⟩ from read_f (by rw [hL, HB0.out]; exact byt_L ns ss ts))
              have v1 : (convert 24 9 (.slice A7 L.length q7)).run Try.prog wr = .ok (.string (strOfNums L)) wr := by
                have := conv_take hC7 (Below.refl _ _) q7 (Nat.le_refl _)
                rwa [List.take_length] at this
              have v2 : (convert 24 9 (.slice A8 L.length q8)).run Try.prog wr = .ok (.string (strOfNums L)) wr := by
                have := conv_take hC8 (Below.refl _ _) q8 (Nat.le_refl _)
                rwa [List.take_length] at this
              have HC7 := Aside0.mk hC7
              have HQ7 := Aside0.mk hq7
              have HWB := Aside0.mk HR.out.B
              clear hL hC7 hC8 hq7 hq8 HR LN3
              go_wp2_with fail
              obtain ⟨wr0, hwr0⟩ : ∃ x, x = wr := ⟨_, rfl⟩
              subst hwr0
              refine (num_Read.calls A7 q7 L ⟨L, 0⟩ wr0 wr0 (Below.refl _ _) HC7.out HQ7.out HBY.out).mono ?_
              rintro e w2 ⟨gr, rfl, hi, hb, _⟩
              rw [HLE.out] at hi
              have HI := Aside0.mk (And.intro hi hb)
              clear hi hb v1 v2 HBY HLE
              go_wp2
              go_loopw [116] (fun i wx => ∃ k : Nat, k ≤ ns.length ∧ i = .int .i64 k ∧ Aside0 (IsS64 wr0 wx gr ⟨nB (ns.drop k) ++ (sB ss ++ tB ts), 0⟩ ∧ Below wr0.heap.size wr0 wx)) (fun i _ => ns.length - (intOf i).toNat)
              case atStart => exact ⟨0, Nat.zero_le _, rfl, HI⟩
              case round =>
                obtain ⟨k, hk, rfl, hR⟩ := hrel
                clear HI
                by_cases hlt : k < ns.length
                · obtain ⟨ad, hA1, hcell⟩ := Kd.at_int HN.out (k : Int) (by omega) (by omega)
                  obtain ⟨n, hn⟩ : ∃ n, n = ns[k] := ⟨_, rfl⟩
                  have hrd : rd ns (k : Int) = n := by rw [hn]; unfold rd; rw [Int.toNat_natCast]; simp [List.getD_eq_getElem?_getD, List.getElem?_eq_getElem hlt]
                  rw [hrd, Int.toNat_natCast] at hcell
                  have hwn := HW0.out n (by rw [hn]; exact List.getElem_mem _)
                  have x0 := up_cell (HWB.out.trans (hR.out.2.mono HWB.out.size)) hcell
                  have HS0 := Aside0.mk (show num_Reader_Num.f ⟨nB (ns.drop k) ++ (sB ss ++ tB ts), 0⟩ 18446744073709551615 = some (n, ⟨nB (ns.drop (k + 1)) ++ (sB ss ++ tB ts), 0⟩) by
                    have h_ : nB (ns.drop k) = leb n.toNat ++ nB (ns.drop (k + 1)) := by rw [hn]; exact fm_drop _ ns k hlt
                    rw [h_, List.append_assoc]
                    unfold num_Reader_Num.f
                    rw [rnum_fwd n.toNat _ (by omega) (by omega), Int.toNat_of_nonneg hwn.1])
                  subst hA1
                  clear hn hrd hwn hcell
                  go_wp2_with fail
                  refine (num_Reader_Num.calls gr _ 18446744073709551615 n _ wr0 wr hR.out.1 hR.out.2 HS0.out).mono ?_
                  rintro e w3 ⟨rfl, hi, hb, _⟩
                  have HI2 := Aside0.mk (And.intro hi hb)
                  clear hi hb hR x0
                  go_wp2
                  go_roundw
                  case rel => exact ⟨k + 1, hlt, by go_num, HI2⟩
                  case measure => simp [intOf]; omega
                · obtain rfl : k = ns.length := by omega
                  have HI := Aside0.mk (show IsS64 wr0 wr gr ⟨sB (ss.drop 0) ++ tB ts, 0⟩ ∧ Below wr0.heap.size wr0 wr by have := hR.out; rw [List.drop_length] at this; simpa [nB] using this)
                  clear hR hk hlt
                  go_wp2
                  go_loopw [127] (fun i wx => ∃ k : Nat, k ≤ ss.length ∧ i = .int .i64 k ∧ Aside0 (IsS64 wr0 wx gr ⟨sB (ss.drop k) ++ tB ts, 0⟩ ∧ Below wr0.heap.size wr0 wx)) (fun i _ => ss.length - (intOf i).toNat)
                  case atStart => exact ⟨0, Nat.zero_le _, rfl, HI⟩
                  case round =>
                    obtain ⟨k, hk, rfl, hR⟩ := hrel
                    clear HI
                    by_cases hlt : k < ss.length
                    · obtain ⟨ad, hA1, hcell⟩ := Kd.at_string HS.out (k : Int) (by omega) (by omega)
                      obtain ⟨s, hs⟩ : ∃ n, n = ss[k] := ⟨_, rfl⟩
                      have hrd : rdOf ByteArray.empty ss (k : Int) = s := by rw [hs]; unfold rdOf; rw [Int.toNat_natCast]; simp [List.getD_eq_getElem?_getD, List.getElem?_eq_getElem hlt]
                      rw [hrd, Int.toNat_natCast] at hcell
                      have hz := HSZ.out s (by rw [hs]; exact List.getElem_mem _)
                      have x0 := up_cell (HWB.out.trans (hR.out.2.mono HWB.out.size)) hcell
                      have HS0 := Aside0.mk (show num_Reader_Text.f ⟨sB (ss.drop k) ++ tB ts, 0⟩ (s.size : Int) = some (s, ⟨sB (ss.drop (k + 1)) ++ tB ts, 0⟩) by
                        have h_ : sB (ss.drop k) = textN s ++ sB (ss.drop (k + 1)) := by rw [hs]; exact fm_drop _ ss k hlt
                        rw [h_, List.append_assoc]
                        exact rtext_fwd s _ (by omega))
                      subst hA1
                      clear hs hrd hcell
                      go_wp2_with fail
                      refine (num_Reader_Text.calls gr _ (s.size : Int) s _ wr0 wr hR.out.1 hR.out.2 HS0.out).mono ?_
                      rintro e w3 ⟨rfl, hi, hb, _⟩
                      have HI2 := Aside0.mk (And.intro hi hb)
                      clear hi hb hR x0
                      go_wp2
                      go_roundw
                      case rel => exact ⟨k + 1, hlt, by go_num, HI2⟩
                      case measure => simp [intOf]; omega
                    · obtain rfl : k = ss.length := by omega
                      have HI := Aside0.mk (show IsS64 wr0 wr gr ⟨tB (ts.drop 0), 0⟩ ∧ Below wr0.heap.size wr0 wr by have := hR.out; rw [List.drop_length] at this; simpa [sB] using this)
                      clear hR hk hlt
                      go_wp2
                      go_loopw [140] (fun i wx => ∃ k : Nat, k ≤ ts.length ∧ i = .int .i64 k ∧ Aside0 (IsS64 wr0 wx gr ⟨tB (ts.drop k), 0⟩ ∧ Below wr0.heap.size wr0 wx)) (fun i _ => ts.length - (intOf i).toNat)
                      case atStart => exact ⟨0, Nat.zero_le _, rfl, HI⟩
                      case round =>
                        obtain ⟨k, hk, rfl, hR⟩ := hrel
                        clear HI
                        by_cases hlt : k < ts.length
                        · obtain ⟨ad, hA1, d0, d1⟩ := tid_at HT.out k hlt
                          obtain ⟨m, n, hmn⟩ : ∃ m n, (m, n) = ts[k] := ⟨ts[k].1, ts[k].2, rfl⟩
                          rw [← hmn] at d0 d1
                          have x0 := up_cell (HWB.out.trans (hR.out.2.mono HWB.out.size)) d0
                          have x1 := up_cell (HWB.out.trans (hR.out.2.mono HWB.out.size)) d1
                          have HIN := Aside0.mk (show TidIn (m, n) by rw [hmn]; exact HTI.out _ (List.getElem_mem _))
                          have HTK := Aside0.mk (show tB (ts.drop k) = tN (m, n) ++ tB (ts.drop (k + 1)) by rw [hmn]; exact fm_drop _ ts k hlt)
                          subst hA1
                          clear hmn d0 d1
                          go_upto_region 47 with fail
                          obtain ⟨KB, hKB⟩ : ∃ x : Nat, x = wr.heap.size := ⟨_, rfl⟩
                          have BX := Aside0.mk (blk_new wr (.cells #[.int .u64 m, .int .i64 n] 28 (0, 0)))
                          have hi0 := hR.out.1
                          rw [HTK.out] at hi0
                          have I0 := Aside0.mk (hi0.alloc (.cells #[.int .u64 m, .int .i64 n] 28 (0, 0)))
                          have HB := Aside0.mk (below_alloc hR.out.2 (.cells #[.int .u64 m, .int .i64 n] 28 (0, 0)))
                          have hne := Aside0.mk (show KB ≠ gr by have := hi0.lt; omega)
                          rw [← hKB] at BX ⊢
                          generalize wr.alloc _ = wx at BX I0 HB ⊢
                          clear hi0 hKB hR x0 x1
                          refine start_ (n := 4) (S := fun w' => True) (ds := []) #[false, false, false, false] (by kernel_rfl) rfl rfl trivial (fun hHeld => ?_)
                          refine with_tabW np47.tab47 np47.bits47 (fun HT_ HW_ => ?_)
                          have n0_ := Aside0.mk (show IsS64 wr0 (World.drew _) gr _ from I0.out)
                          have n1_ := Aside0.mk (below_drew HB.out)
                          have n2_ := Aside0.mk (blk_drew BX.out)
                          clear I0 HB BX
                          generalize World.drew _ = wd at n0_ n1_ n2_ hHeld ⊢
                          have I0 := n0_
                          have HB := n1_
                          have BX := n2_
                          clear hHeld n0_ n1_ n2_
                          refine inv_at [0, 1, 2, 3] (fun a0_ b a w' => a = putSel a0_ b [(0, 144, .pointer (some ⟨gr, 0, none⟩)), (1, 145, .agg #[.int .u64 m, .int .i64 n]), (2, 146, .agg #[.int .u64 m, .int .i64 n]), (3, 147, .bool false)] ∧ (b 1 = false → IsS64 wr0 w' gr ⟨tN (m, n) ++ tB (ts.drop (k + 1)), 0⟩) ∧ (b 1 = true → IsS64 wr0 w' gr ⟨tB (ts.drop (k + 1)), 0⟩) ∧ (Below wr0.heap.size wr0 w') ∧ (w'.heap[KB]? = some (.cells #[.int .u64 m, .int .i64 n] 28 (0, 0)))) HT_.out HW_.out (by kernel_rfl) (by kernel_rfl) ?_ ?_ ?_
                          · exact ⟨by simp only [putSel, Bool.false_eq_true, if_false], fun _ => I0.out, fun h_ => absurd h_ (by decide), HB.out, BX.out⟩
                          · skip
                            clear BX HB I0
                            refine steps_cons ?_ ?_
                            · rintro b a w' ⟨ha, Q_I0, Q_I1, Q_HB, Q_BX⟩ hb_ hon hoff
                              refine ⟨_, rfl, fun K hK => ?_⟩
                              have e15 : a.tmps[15]? = some (.pointer (some ⟨gr, 0, none⟩)) := by rw [ha]; exact (putSel_off rfl).trans rfl
                              replace ha := Aside0.mk ha
                              have I0 := Aside0.mk (Q_I0 (hoff 1 (by kernel_rfl)))
                              have HB := Aside0.mk Q_HB
                              have BX := Aside0.mk Q_BX
                              refine value_ (w1 := w') (v := .pointer (some ⟨gr, 0, none⟩)) (by rfl) rfl ?_ ?_
                              · go_simp
                                (try simp only [i64_w])
                                try rfl
                              refine hK.out _ _ ⟨(by rw [ha.out]; exact putSel_upk 0 hb_ rfl rfl rfl), Q_I0, fun h0_ => absurd ((hoff 1 (by kernel_rfl)).symm.trans h0_) (by decide), Q_HB, Q_BX⟩
                            refine steps_cons ?_ ?_
                            · rintro b a w' ⟨ha, Q_I0, Q_I1, Q_HB, Q_BX⟩ hb_ hon hoff
                              refine ⟨_, rfl, fun K hK => ?_⟩
                              have e144 : a.tmps[144]? = some (.pointer (some ⟨gr, 0, none⟩)) := by rw [ha]; exact putSel_on (e := (0, 144, .pointer (some ⟨gr, 0, none⟩))) 0 rfl rfl (hon 0 (by kernel_rfl)) rfl
                              replace ha := Aside0.mk ha
                              have I0 := Aside0.mk (Q_I0 hb_)
                              have HB := Aside0.mk Q_HB
                              have BX := Aside0.mk Q_BX
                              refine goes_ Try.func22 (by kernel_rfl) rfl #[.pointer (some ⟨gr, 0, none⟩)] (by rfl) rfl rfl (by first | (simp only [List.map_toArray, List.map_cons, List.map_nil, Act.eval, Array.getD_eq_getD_getElem?, Option.getD_some, e144]; done) | (simp only [List.map_toArray, List.map_cons, List.map_nil, Act.eval, Array.getD_eq_getD_getElem?, Option.getD_some, e144]; rfl)) ?_
                              refine (num_Reader_Tid.calls gr _ m n _ wr0 w' I0.out HB.out (rtid_fwd m n _ HIN.out.1 HIN.out.2.1 HIN.out.2.2.1 HIN.out.2.2.2)).mono ?_
                              rintro e_ wn_ ⟨rfl, hi_, hbw_, hk_⟩
                              refine ⟨_, rfl, ?_⟩
                              refine hK.out _ _ ⟨(by rw [ha.out]; exact putSel_upk 1 hb_ rfl rfl rfl), fun h0_ => absurd ((up_self b 1).symm.trans h0_) (by decide), fun _ => hi_, hbw_, (hk_.blk BX.out hne.out (by simp))⟩
                            refine steps_cons ?_ ?_
                            · rintro b a w' ⟨ha, Q_I0, Q_I1, Q_HB, Q_BX⟩ hb_ hon hoff
                              refine ⟨_, rfl, fun K hK => ?_⟩
                              have e21 : a.tmps[21]? = some (.pointer (some ⟨KB, 0, none⟩)) := by rw [ha]; exact (putSel_off rfl).trans rfl
                              replace ha := Aside0.mk ha
                              have HB := Aside0.mk Q_HB
                              have BX := Aside0.mk Q_BX
                              have c0_ : w'.cell? ⟨KB, 0, none⟩ = some (.int .u64 m) := (blk_cell BX.out 0).trans rfl
                              have c1_ : w'.cell? ⟨KB, 1, none⟩ = some (.int .i64 n) := (blk_cell BX.out 1).trans rfl
                              refine value_ (w1 := w') (v := .agg #[.int .u64 m, .int .i64 n]) (by rfl) rfl ?_ ?_
                              · go_simp
                                (try simp only [i64_w])
                                try rfl
                              refine hK.out _ _ ⟨(by rw [ha.out]; exact putSel_upk 2 hb_ rfl rfl rfl), Q_I0, Q_I1, Q_HB, Q_BX⟩
                            refine steps_cons ?_ ?_
                            · rintro b a w' ⟨ha, Q_I0, Q_I1, Q_HB, Q_BX⟩ hb_ hon hoff
                              refine ⟨_, rfl, fun K hK => ?_⟩
                              have e145 : a.tmps[145]? = some (.agg #[.int .u64 m, .int .i64 n]) := by rw [ha]; exact putSel_on (e := (1, 145, .agg #[.int .u64 m, .int .i64 n])) 1 rfl rfl (hon 1 (by kernel_rfl)) rfl
                              have e146 : a.tmps[146]? = some (.agg #[.int .u64 m, .int .i64 n]) := by rw [ha]; exact putSel_on (e := (2, 146, .agg #[.int .u64 m, .int .i64 n])) 2 rfl rfl (hon 2 (by kernel_rfl)) rfl
                              replace ha := Aside0.mk ha
                              have I1 := Aside0.mk (Q_I1 (hon 1 (by kernel_rfl)))
                              have HB := Aside0.mk Q_HB
                              have BX := Aside0.mk Q_BX
                              refine value_ (w1 := w') (v := .bool false) (by rfl) rfl ?_ ?_
                              · go_simp
                                (try simp only [i64_w])
                                try rfl
                              refine hK.out _ _ ⟨(by rw [ha.out]; exact putSel_upk 3 hb_ rfl rfl rfl), fun h0_ => absurd ((hon 1 (by kernel_rfl)).symm.trans h0_) (by decide), Q_I1, Q_HB, Q_BX⟩
                            exact steps_nil
                          rintro b a w' hall ⟨ha, Q_I0, Q_I1, Q_HB, Q_BX⟩
                          clear BX HB I0
                          have hb0_ := hall 0 (by kernel_rfl)
                          have hb1_ := hall 1 (by kernel_rfl)
                          have hb2_ := hall 2 (by kernel_rfl)
                          have hb3_ := hall 3 (by kernel_rfl)
                          subst ha
                          simp only [putSel, hb0_, hb1_, hb2_, hb3_, if_true, Act.put, List.setIfInBounds_toArray, List.set_cons_zero, List.set_cons_succ]
                          clear Q_I0
                          have I1 := Aside0.mk (Q_I1 hb1_)
                          clear Q_I1
                          have HB := Aside0.mk Q_HB
                          clear Q_HB
                          have BX := Aside0.mk Q_BX
                          clear Q_BX
                          clear hall hb0_ hb1_ hb2_ hb3_
                          have HI2 := Aside0.mk (And.intro I1.out HB.out)
                          clear I1 HB BX
                          go_wp2
                          go_roundw
                          case rel => exact ⟨k + 1, hlt, by go_num, HI2⟩
                          case measure => simp [intOf]; omega
                        · obtain rfl : k = ts.length := by omega
                          have HI := Aside0.mk (show IsS64 wr0 wr gr ⟨[], 0⟩ ∧ Below wr0.heap.size wr0 wr by have := hR.out; rw [List.drop_length] at this; simpa [tB] using this)
                          clear hR hk hlt
                          go_wp2_with fail
                          refine (num_Reader_End.calls gr ⟨[], 0⟩ 0 ⟨[], 0⟩ wr0 wr HI.out.1 HI.out.2 rfl).mono ?_
                          rintro e w3 ⟨rfl, hi, hb, _⟩
                          have HI2 := Aside0.mk (And.intro hi hb)
                          clear hi hb HI
                          go_wp2_with fail
                          refine (num_Reader_Left.calls gr ⟨[], 0⟩ 0 ⟨[], 0⟩ wr0 w3 HI2.out.1 HI2.out.2 rfl).mono ?_
                          rintro e w4 ⟨rfl, hi, hb, _⟩
                          have HI3 := Aside0.mk (And.intro hi hb)
                          clear hi hb HI2
                          go_wp2_with fail
                          refine (num_Reader_Err.calls gr ⟨[], 0⟩ 0 ⟨[], 0⟩ wr0 w4 HI3.out.1 HI3.out.2 rfl).mono ?_
                          rintro e w5 ⟨rfl, hi, hb, _⟩
                          have HBB := Aside0.mk (HWB.out.trans (hb.mono HWB.out.size))
                          clear hi hb HI3
                          go_wp2
                          go_ret
                          exact ⟨rfl, HBB.out⟩
end Go.Proofs.Ytolcmjoapnldiaa.NumPuts
