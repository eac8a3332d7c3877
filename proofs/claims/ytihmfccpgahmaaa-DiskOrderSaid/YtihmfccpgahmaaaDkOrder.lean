/- The law DiskOrder, walked: true, for whatever bytes and truths. -/
import Derived.Test.YtihmfccpgahmaaaDkConv
import Derived.Deep.QuietTactic
import Derived.BigQuiet
namespace Go.Proofs.Ytihmfccpgahmaaa.Dk
open Go Go.RowKit Go.Proofs.YtihmfccpgahmaaaW.PrintWords Go.Proofs.YtihmfccpgahmaaaW.PrintMore Go.Proofs.YtihmfccpgahmaaaW.PrintLast Go.Proofs.Ytihmfccpgahmaaa.Str
set_option linter.unusedVariables false
set_option linter.unusedSimpArgs false
namespace DiskOrder
def ord1 (a : List Int) : DA := ⟨[[], a], [false, false], [[], []], [false, false], [(1, a)], 0, false, wrap64 (0 + 1)⟩
def ord2 (a : List Int) : DA := ⟨[[], a], [false, false], [[], a], [false, false], [], 0, false, wrap64 (wrap64 (0 + 1) + 1)⟩
def ord3 (a b : List Int) : DA := ⟨[[], b], [false, false], [[], a], [false, false], [(1, b)], 0, false, wrap64 (wrap64 (wrap64 (0 + 1) + 1) + 1)⟩
def ord4 (a b c : List Int) : DA := ⟨[[], c], [false, false], [[], a], [false, false], [(1, b), (1, c)], 0, false, wrap64 (wrap64 (wrap64 (wrap64 (0 + 1) + 1) + 1) + 1)⟩
def ordF (a : List Int) : DA := ⟨[[], a], [false, false], [[], a], [false, false], [], 0, false, wrap64 (wrap64 (wrap64 (wrap64 (0 + 1) + 1) + 1) + 1)⟩
theorem order_1 (a : List Int) (h : a.length ≤ 512) : (DA.new (newN 2).toNat).wr 1 a = ord1 a := by unfold DA.wr; rw [if_pos ⟨by decide, h⟩]; rfl
theorem order_2 (a : List Int) : (ord1 a).sy = ord2 a := rfl
theorem order_3 (a b : List Int) (h : b.length ≤ 512) : (ord2 a).wr 1 b = ord3 a b := by unfold DA.wr; rw [if_pos ⟨rfl, h⟩]; rfl
theorem order_4 (a b c : List Int) (h : c.length ≤ 512) : (ord3 a b).wr 1 c = ord4 a b c := by unfold DA.wr; rw [if_pos ⟨rfl, h⟩]; rfl
theorem order_on (a b c : List Int) (x y : Bool) : DA.on [x, y] (-1) (ord4 a b c) = ordF (if y = true then c else if x = true then b else a) := by cases x <;> cases y <;> rfl
theorem order_w (a b c : List Int) : (ord4 a b c).wait.length ≤ 1000000 := by show 2 ≤ 1000000; omega
theorem wrE_0 {M : DA} {i : Int} {n : Nat} (h : M.ask i = 0) (h5 : n ≤ 512) (hf : M.stepE = 0) : M.wrE i n = 0 := by unfold DA.wrE; rw [h, if_neg (by omega), if_pos rfl, hf]

set_option maxRecDepth 100000 in
set_option maxHeartbeats 4000000 in
theorem law_ok (A0 : Option Addr) (c0 : Nat) (a : List Int) (A1 : Option Addr) (c1 : Nat) (b : List Int) (A2 : Option Addr) (c2 : Nat) (c : List Int) (x y : Bool) (w : World)
    (hca : a.length ≤ c0) (hCa : Kd.C (Kd.int .u8) w A0 a.length a) (hwa : ∀ x ∈ a, (Lit.int .u8 x).wf = true) (hcb : b.length ≤ c1) (hCb : Kd.C (Kd.int .u8) w A1 b.length b) (hwb : ∀ x ∈ b, (Lit.int .u8 x).wf = true) (hcc : c.length ≤ c2) (hCc : Kd.C (Kd.int .u8) w A2 c.length c) (hwc : ∀ x ∈ c, (Lit.int .u8 x).wf = true) :
    Calls Try.prog 5 #[.slice A0 a.length c0, .slice A1 b.length c1, .slice A2 c.length c2, .bool x, .bool y] w fun e w' => e = .returned (.bool true) ∧ Below w.heap.size w w' := by
  have hA := hCa.2.1
  have hB := hCb.2.1
  have hC := hCc.2.1
  by_cases hs : a.length ≤ 512 ∧ b.length ≤ 512 ∧ c.length ≤ 512
  case neg =>
    have t : ∀ n : Nat, (decide (512 < n) = false ∧ decide ((512 : Int) < (n : Int)) = false) ∨ (decide (512 < n) = true ∧ decide ((512 : Int) < (n : Int)) = true) := fun n => by
      rcases Nat.lt_or_ge 512 n with h | h
      · exact .inr ⟨decide_eq_true h, decide_eq_true (by omega)⟩
      · exact .inl ⟨decide_eq_false (by omega), decide_eq_false (by omega)⟩
    rcases t a.length with ⟨t1, u1⟩ | ⟨t1, u1⟩
    · rcases t b.length with ⟨t2, u2⟩ | ⟨t2, u2⟩
      · have t3 : decide (512 < c.length) = true := decide_eq_true (by have h1 := of_decide_eq_false t1; have h2 := of_decide_eq_false t2; omega)
        have u3 : decide ((512 : Int) < (c.length : Int)) = true := decide_eq_true (by have h := of_decide_eq_true t3; omega)
        clear hs t hCa hCb hCc hwa hwb hwc hca hcb hcc
        go_enter Try.func5, Try.ntmps5
        go_wp2_with fail
        refine (head_ok _).mono ?_
        rintro e w0 ⟨rfl, hb⟩
        have HB := Aside0.mk hb
        clear hb
        go_wp2
        go_ret
        exact ⟨rfl, HB.out⟩
      · clear hs t hCa hCb hCc hwa hwb hwc hca hcb hcc
        go_enter Try.func5, Try.ntmps5
        go_wp2_with fail
        refine (head_ok _).mono ?_
        rintro e w0 ⟨rfl, hb⟩
        have HB := Aside0.mk hb
        clear hb
        go_wp2
        go_ret
        exact ⟨rfl, HB.out⟩
    · clear hs t hCa hCb hCc hwa hwb hwc hca hcb hcc
      go_enter Try.func5, Try.ntmps5
      go_wp2_with fail
      refine (head_ok _).mono ?_
      rintro e w0 ⟨rfl, hb⟩
      have HB := Aside0.mk hb
      clear hb
      go_wp2
      go_ret
      exact ⟨rfl, HB.out⟩
  have HL := Aside0.mk hs
  obtain ⟨s1, s2, s3⟩ := hs
  have t1 : decide (512 < a.length) = false := decide_eq_false (by omega)
  have t2 : decide (512 < b.length) = false := decide_eq_false (by omega)
  have t3 : decide (512 < c.length) = false := decide_eq_false (by omega)
  have u1 : decide ((512 : Int) < (a.length : Int)) = false := decide_eq_false (by omega)
  have u2 : decide ((512 : Int) < (b.length : Int)) = false := decide_eq_false (by omega)
  have u3 : decide ((512 : Int) < (c.length : Int)) = false := decide_eq_false (by omega)
  have HCL := Aside0.mk (And.intro hCa (And.intro hCb hCc))
  have HCC := Aside0.mk (And.intro hca (And.intro hcb hcc))
  clear hCa hCb hCc hwa hwb hwc s1 s2 s3 hca hcb hcc
  go_enter Try.func5, Try.ntmps5
  go_wp2_with fail
  refine (head_ok _).mono ?_
  rintro e w0 ⟨rfl, hb⟩
  have HB := Aside0.mk hb
  clear hb
  go_wp2_with fail
  refine (st_new (w0 := w) _ _ HB.out).mono ?_
  rintro e w1 ⟨g, S, rfl, hi, _, _⟩
  obtain ⟨M0, hM0⟩ : ∃ M, M = DA.new (newN 2).toNat := ⟨_, rfl⟩
  rw [← hM0] at hi
  have HM0 := Aside0.mk hM0
  have HI := Aside0.mk hi
  clear hi hM0 HB
  go_wp2_with fail
  refine (st_write HI.out 1 A0 c0 a (fun W' hk => Kd.C_below HCL.out.1 (HI.out.I.after hk HI.out.B HI.out.B.size)) HCC.out.1 (by rw [HM0.out]; decide)).mono ?_
  rintro e w2 ⟨he, S2, hi, _, _⟩
  rw [wrE_0 (by rw [HM0.out]; decide) HL.out.1 (by rw [HM0.out]; decide)] at he
  subst he
  obtain ⟨M1, hM1⟩ : ∃ M, M = ord1 a := ⟨_, rfl⟩
  rw [HM0.out, order_1 a HL.out.1, ← hM1] at hi
  have HM1 := Aside0.mk hM1
  clear HI
  have HI := Aside0.mk hi
  clear hi hM1
  go_wp2_with fail
  refine (st_sync HI.out (by rw [HM1.out]; show 1 ≤ 1000000; omega)).mono ?_
  rintro e w3 ⟨he, hi, _⟩
  rw [show M1.syE = 0 by rw [HM1.out]; rfl] at he
  subst he
  obtain ⟨M2, hM2⟩ : ∃ M, M = ord2 a := ⟨_, rfl⟩
  rw [HM1.out, order_2 a, ← hM2] at hi
  have HM2 := Aside0.mk hM2
  clear HI
  have HI := Aside0.mk hi
  clear hi hM2
  go_wp2_with fail
  refine (st_write HI.out 1 A1 c1 b (fun W' hk => Kd.C_below HCL.out.2.1 (HI.out.I.after hk HI.out.B HI.out.B.size)) HCC.out.2.1 (by rw [HM2.out]; show 0 < 1000000; omega)).mono ?_
  rintro e w4 ⟨he, S4, hi, _, _⟩
  rw [wrE_0 (by rw [HM2.out]; rfl) HL.out.2.1 (by rw [HM2.out]; rfl)] at he
  subst he
  obtain ⟨M3, hM3⟩ : ∃ M, M = ord3 a b := ⟨_, rfl⟩
  rw [HM2.out, order_3 a b HL.out.2.1, ← hM3] at hi
  have HM3 := Aside0.mk hM3
  clear HI
  have HI := Aside0.mk hi
  clear hi hM3
  go_wp2_with fail
  refine (st_write HI.out 1 A2 c2 c (fun W' hk => Kd.C_below HCL.out.2.2 (HI.out.I.after hk HI.out.B HI.out.B.size)) HCC.out.2.2 (by rw [HM3.out]; show 1 < 1000000; omega)).mono ?_
  rintro e w5 ⟨he, S5, hi, _, _⟩
  rw [wrE_0 (by rw [HM3.out]; rfl) HL.out.2.2 (by rw [HM3.out]; rfl)] at he
  subst he
  obtain ⟨M4, hM4⟩ : ∃ M, M = ord4 a b c := ⟨_, rfl⟩
  rw [HM3.out, order_4 a b c HL.out.2.2, ← hM4] at hi
  have HM4 := Aside0.mk hM4
  clear HI
  have HI := Aside0.mk hi
  clear hi hM4
  go_wp2_with fail
  refine (waits_a HI.out.I).mono ?_
  rw [show M4.wait.length = 2 by rw [HM4.out]; rfl]
  rintro e w' ⟨rfl, rfl⟩
  cases x <;> cases y
  · -- false, false: what stays is a
    go_wp2_with fail
    refine (st_on (HI.out.alloc (.cells #[.bool false, .bool false] 4 (0, 0))) _ 2 [false, false] (fun W' hk => lit_C (enc := Value.bool) false [false, false] (lit_kept (blk_new _ _) hk HI.out.new_row) rfl (by decide)) (by decide) (-1) (by rw [HM4.out]; exact order_w a b c)).mono ?_
    rintro e w6 ⟨rfl, hi, _⟩
    rw [HM4.out, order_on] at hi
    obtain ⟨M5, hM5⟩ : ∃ M, M = ordF (a) := ⟨_, rfl⟩
    replace hi : St w w6 g _ (ordF a) := hi
    rw [← hM5] at hi
    have HM5 := Aside0.mk hM5
    clear HI
    have HI := Aside0.mk hi
    clear hi hM5
    go_wp2_with fail
    refine (st_read HI.out 1).mono ?_
    rintro e w7 ⟨⟨A7, c7, l7⟩, he, hl, ho, hb⟩
    rw [show M5.rdE 1 = 0 by rw [HM5.out]; rfl] at he
    subst he
    replace hl : l7 = wholeF a := by rw [HM5.out] at hl; exact hl
    have hlen : l7.length = 512 := by rw [hl]; exact whole_len (HL.out).1
    obtain ⟨hc7, hC7⟩ := own_C ho
    obtain ⟨k7, c7', hv7, _⟩ := Kd.R_form ho (by show 0 < l7.length; omega)
    injection hv7 with q1 q2 q3
    subst q1
    have HI2 := Aside0.mk (HI.out.below hb)
    have HO := Aside0.mk ho
    have HC7 := Aside0.mk hC7
    unfold Sec.v
    have hm : (a).length ≤ 512 := (HL.out).1
    have cv1 : ∀ n, (convert 22 9 (.slice (some ⟨k7, 0, none⟩) (a).length c7)).run Try.prog (w7.drewN n) = .ok (.string (strOfNums a)) (w7.drewN n) := fun n => by
      have := cv_take (j := (a).length) hC7 (below_drewN w7 n) c7 (by omega)
      rw [hl, whole_take] at this
      exact this
    have cv2 : ∀ n, (convert 22 9 (.slice A0 (a).length c0)).run Try.prog (w7.drewN n) = .ok (.string (strOfNums a)) (w7.drewN n) := fun n => cv_all (HCL.out.1) (HI2.out.B.trans ((below_drewN w7 n).mono HI2.out.B.size)) c0
    have HLL := Aside0.mk hl
    have hcap : (a).length ≤ c7 := by omega
    clear hl ho hb hC7 HI q2 q3
    simp only [hlen]
    go_upto_region 15 with fail
    go_quiet (fail)
    have HW := Aside0.mk (HI2.out.below (below_drewN _ nq))
    have HC8 := Aside0.mk (Kd.C_below HC7.out (below_drewN w7 nq))
    have HR8 := Aside0.mk (show Own (w7.drewN nq) w6.heap.size (fun _ => True) ⟨some ⟨k7, 0, none⟩, c7, l7⟩ from Kd.R_drewN HO.out nq)
    generalize w7.drewN nq = w8 at HW HC8 HR8 ⊢
    clear cv1 cv2 HI2 HC7 HO
    have hge : 512 ≤ c7 := by omega
    by_cases hcc : c7 = (a).length
    · -- nothing stands behind
      have hm2 : (a).length = 512 := by omega
      have hcc' : c7 = 512 := by omega
      subst hcc'
      clear hcc hcap hge hc7 hm HL
      go_wp2
      have HMW := Aside0.mk (show M5.wait.length = 0 by rw [HM5.out]; rfl)
      go_loop [96] (fun i => i = .int .i64 0) (fun _ => 0)
      case atStart => rfl
      case round =>
        obtain rfl := hrel
        go_wp2_with fail
        refine (waits_a HW.out.I).mono ?_
        rw [HMW.out]
        rintro e w' ⟨rfl, rfl⟩
        have HBB := Aside0.mk HW.out.B
        clear HW
        go_wp2
        go_ret
        exact ⟨rfl, HBB.out⟩
    · have hlt2 : (a).length < c7 := by omega
      go_wp2
      have HMW := Aside0.mk (show M5.wait.length = 0 by rw [HM5.out]; rfl)
      obtain ⟨R, hR⟩ : ∃ R, R = 512 - (a).length := ⟨_, rfl⟩
      rw [← hR]
      have HR := Aside0.mk hR
      have hR5 : R ≤ 512 := by omega
      have hcR : R ≤ c7 - (a).length := by omega
      clear hR
      go_loop [96] (fun i => ∃ k : Nat, k ≤ R ∧ i = .int .i64 k) (fun i => R - (intOf i).toNat)
      case atStart => exact ⟨0, Nat.zero_le _, rfl⟩
      case round =>
        obtain ⟨k, hk, rfl⟩ := hrel
        by_cases hlt : k < R
        · have hcell : w8.cell? ⟨k7, (a).length + k, none⟩ = some (.int .u8 0) := whole_cell HR8.out HLL.out hm (by omega) (by have := HR.out; omega)
          go_wp2
          go_round
          case rel => exact ⟨k + 1, hlt, by go_num⟩
          case measure => simp [intOf]; omega
        · go_wp2_with fail
          refine (waits_a HW.out.I).mono ?_
          rw [HMW.out]
          rintro e w' ⟨rfl, rfl⟩
          have HBB := Aside0.mk HW.out.B
          clear HW
          go_wp2
          go_ret
          exact ⟨rfl, HBB.out⟩
  · -- false, true: what stays is c
    go_wp2_with fail
    refine (st_on (HI.out.alloc (.cells #[.bool false, .bool true] 4 (0, 0))) _ 2 [false, true] (fun W' hk => lit_C (enc := Value.bool) false [false, true] (lit_kept (blk_new _ _) hk HI.out.new_row) rfl (by decide)) (by decide) (-1) (by rw [HM4.out]; exact order_w a b c)).mono ?_
    rintro e w6 ⟨rfl, hi, _⟩
    rw [HM4.out, order_on] at hi
    obtain ⟨M5, hM5⟩ : ∃ M, M = ordF (c) := ⟨_, rfl⟩
    replace hi : St w w6 g _ (ordF c) := hi
    rw [← hM5] at hi
    have HM5 := Aside0.mk hM5
    clear HI
    have HI := Aside0.mk hi
    clear hi hM5
    go_wp2_with fail
    refine (st_read HI.out 1).mono ?_
    rintro e w7 ⟨⟨A7, c7, l7⟩, he, hl, ho, hb⟩
    rw [show M5.rdE 1 = 0 by rw [HM5.out]; rfl] at he
    subst he
    replace hl : l7 = wholeF c := by rw [HM5.out] at hl; exact hl
    have hlen : l7.length = 512 := by rw [hl]; exact whole_len (HL.out).2.2
    obtain ⟨hc7, hC7⟩ := own_C ho
    obtain ⟨k7, c7', hv7, _⟩ := Kd.R_form ho (by show 0 < l7.length; omega)
    injection hv7 with q1 q2 q3
    subst q1
    have HI2 := Aside0.mk (HI.out.below hb)
    have HO := Aside0.mk ho
    have HC7 := Aside0.mk hC7
    unfold Sec.v
    have hm : (c).length ≤ 512 := (HL.out).2.2
    have cv1 : ∀ n, (convert 22 9 (.slice (some ⟨k7, 0, none⟩) (c).length c7)).run Try.prog (w7.drewN n) = .ok (.string (strOfNums c)) (w7.drewN n) := fun n => by
      have := cv_take (j := (c).length) hC7 (below_drewN w7 n) c7 (by omega)
      rw [hl, whole_take] at this
      exact this
    have cv2 : ∀ n, (convert 22 9 (.slice A2 (c).length c2)).run Try.prog (w7.drewN n) = .ok (.string (strOfNums c)) (w7.drewN n) := fun n => cv_all (HCL.out.2.2) (HI2.out.B.trans ((below_drewN w7 n).mono HI2.out.B.size)) c2
    have HLL := Aside0.mk hl
    have hcap : (c).length ≤ c7 := by omega
    clear hl ho hb hC7 HI q2 q3
    simp only [hlen]
    go_upto_region 15 with fail
    go_quiet (fail)
    have HW := Aside0.mk (HI2.out.below (below_drewN _ nq))
    have HC8 := Aside0.mk (Kd.C_below HC7.out (below_drewN w7 nq))
    have HR8 := Aside0.mk (show Own (w7.drewN nq) w6.heap.size (fun _ => True) ⟨some ⟨k7, 0, none⟩, c7, l7⟩ from Kd.R_drewN HO.out nq)
    generalize w7.drewN nq = w8 at HW HC8 HR8 ⊢
    clear cv1 cv2 HI2 HC7 HO
    have hge : 512 ≤ c7 := by omega
    by_cases hcc : c7 = (c).length
    · -- nothing stands behind
      have hm2 : (c).length = 512 := by omega
      have hcc' : c7 = 512 := by omega
      subst hcc'
      clear hcc hcap hge hc7 hm HL
      go_wp2
      have HMW := Aside0.mk (show M5.wait.length = 0 by rw [HM5.out]; rfl)
      go_loop [96] (fun i => i = .int .i64 0) (fun _ => 0)
      case atStart => rfl
      case round =>
        obtain rfl := hrel
        go_wp2_with fail
        refine (waits_a HW.out.I).mono ?_
        rw [HMW.out]
        rintro e w' ⟨rfl, rfl⟩
        have HBB := Aside0.mk HW.out.B
        clear HW
        go_wp2
        go_ret
        exact ⟨rfl, HBB.out⟩
    · have hlt2 : (c).length < c7 := by omega
      go_wp2
      have HMW := Aside0.mk (show M5.wait.length = 0 by rw [HM5.out]; rfl)
      obtain ⟨R, hR⟩ : ∃ R, R = 512 - (c).length := ⟨_, rfl⟩
      rw [← hR]
      have HR := Aside0.mk hR
      have hR5 : R ≤ 512 := by omega
      have hcR : R ≤ c7 - (c).length := by omega
      clear hR
      go_loop [96] (fun i => ∃ k : Nat, k ≤ R ∧ i = .int .i64 k) (fun i => R - (intOf i).toNat)
      case atStart => exact ⟨0, Nat.zero_le _, rfl⟩
      case round =>
        obtain ⟨k, hk, rfl⟩ := hrel
        by_cases hlt : k < R
        · have hcell : w8.cell? ⟨k7, (c).length + k, none⟩ = some (.int .u8 0) := whole_cell HR8.out HLL.out hm (by omega) (by have := HR.out; omega)
          go_wp2
          go_round
          case rel => exact ⟨k + 1, hlt, by go_num⟩
          case measure => simp [intOf]; omega
        · go_wp2_with fail
          refine (waits_a HW.out.I).mono ?_
          rw [HMW.out]
          rintro e w' ⟨rfl, rfl⟩
          have HBB := Aside0.mk HW.out.B
          clear HW
          go_wp2
          go_ret
          exact ⟨rfl, HBB.out⟩
  · -- true, false: what stays is b
    go_wp2_with fail
    refine (st_on (HI.out.alloc (.cells #[.bool true, .bool false] 4 (0, 0))) _ 2 [true, false] (fun W' hk => lit_C (enc := Value.bool) false [true, false] (lit_kept (blk_new _ _) hk HI.out.new_row) rfl (by decide)) (by decide) (-1) (by rw [HM4.out]; exact order_w a b c)).mono ?_
    rintro e w6 ⟨rfl, hi, _⟩
    rw [HM4.out, order_on] at hi
    obtain ⟨M5, hM5⟩ : ∃ M, M = ordF (b) := ⟨_, rfl⟩
    replace hi : St w w6 g _ (ordF b) := hi
    rw [← hM5] at hi
    have HM5 := Aside0.mk hM5
    clear HI
    have HI := Aside0.mk hi
    clear hi hM5
    go_wp2_with fail
    refine (st_read HI.out 1).mono ?_
    rintro e w7 ⟨⟨A7, c7, l7⟩, he, hl, ho, hb⟩
    rw [show M5.rdE 1 = 0 by rw [HM5.out]; rfl] at he
    subst he
    replace hl : l7 = wholeF b := by rw [HM5.out] at hl; exact hl
    have hlen : l7.length = 512 := by rw [hl]; exact whole_len (HL.out).2.1
    obtain ⟨hc7, hC7⟩ := own_C ho
    obtain ⟨k7, c7', hv7, _⟩ := Kd.R_form ho (by show 0 < l7.length; omega)
    injection hv7 with q1 q2 q3
    subst q1
    have HI2 := Aside0.mk (HI.out.below hb)
    have HO := Aside0.mk ho
    have HC7 := Aside0.mk hC7
    unfold Sec.v
    have hm : (b).length ≤ 512 := (HL.out).2.1
    have cv1 : ∀ n, (convert 22 9 (.slice (some ⟨k7, 0, none⟩) (b).length c7)).run Try.prog (w7.drewN n) = .ok (.string (strOfNums b)) (w7.drewN n) := fun n => by
      have := cv_take (j := (b).length) hC7 (below_drewN w7 n) c7 (by omega)
      rw [hl, whole_take] at this
      exact this
    have cv2 : ∀ n, (convert 22 9 (.slice A1 (b).length c1)).run Try.prog (w7.drewN n) = .ok (.string (strOfNums b)) (w7.drewN n) := fun n => cv_all (HCL.out.2.1) (HI2.out.B.trans ((below_drewN w7 n).mono HI2.out.B.size)) c1
    have HLL := Aside0.mk hl
    have hcap : (b).length ≤ c7 := by omega
    clear hl ho hb hC7 HI q2 q3
    simp only [hlen]
    go_upto_region 15 with fail
    go_quiet (fail)
    have HW := Aside0.mk (HI2.out.below (below_drewN _ nq))
    have HC8 := Aside0.mk (Kd.C_below HC7.out (below_drewN w7 nq))
    have HR8 := Aside0.mk (show Own (w7.drewN nq) w6.heap.size (fun _ => True) ⟨some ⟨k7, 0, none⟩, c7, l7⟩ from Kd.R_drewN HO.out nq)
    generalize w7.drewN nq = w8 at HW HC8 HR8 ⊢
    clear cv1 cv2 HI2 HC7 HO
    have hge : 512 ≤ c7 := by omega
    by_cases hcc : c7 = (b).length
    · -- nothing stands behind
      have hm2 : (b).length = 512 := by omega
      have hcc' : c7 = 512 := by omega
      subst hcc'
      clear hcc hcap hge hc7 hm HL
      go_wp2
      have HMW := Aside0.mk (show M5.wait.length = 0 by rw [HM5.out]; rfl)
      go_loop [96] (fun i => i = .int .i64 0) (fun _ => 0)
      case atStart => rfl
      case round =>
        obtain rfl := hrel
        go_wp2_with fail
        refine (waits_a HW.out.I).mono ?_
        rw [HMW.out]
        rintro e w' ⟨rfl, rfl⟩
        have HBB := Aside0.mk HW.out.B
        clear HW
        go_wp2
        go_ret
        exact ⟨rfl, HBB.out⟩
    · have hlt2 : (b).length < c7 := by omega
      go_wp2
      have HMW := Aside0.mk (show M5.wait.length = 0 by rw [HM5.out]; rfl)
      obtain ⟨R, hR⟩ : ∃ R, R = 512 - (b).length := ⟨_, rfl⟩
      rw [← hR]
      have HR := Aside0.mk hR
      have hR5 : R ≤ 512 := by omega
      have hcR : R ≤ c7 - (b).length := by omega
      clear hR
      go_loop [96] (fun i => ∃ k : Nat, k ≤ R ∧ i = .int .i64 k) (fun i => R - (intOf i).toNat)
      case atStart => exact ⟨0, Nat.zero_le _, rfl⟩
      case round =>
        obtain ⟨k, hk, rfl⟩ := hrel
        by_cases hlt : k < R
        · have hcell : w8.cell? ⟨k7, (b).length + k, none⟩ = some (.int .u8 0) := whole_cell HR8.out HLL.out hm (by omega) (by have := HR.out; omega)
          go_wp2
          go_round
          case rel => exact ⟨k + 1, hlt, by go_num⟩
          case measure => simp [intOf]; omega
        · go_wp2_with fail
          refine (waits_a HW.out.I).mono ?_
          rw [HMW.out]
          rintro e w' ⟨rfl, rfl⟩
          have HBB := Aside0.mk HW.out.B
          clear HW
          go_wp2
          go_ret
          exact ⟨rfl, HBB.out⟩
  · -- true, true: what stays is c
    go_wp2_with fail
    refine (st_on (HI.out.alloc (.cells #[.bool true, .bool true] 4 (0, 0))) _ 2 [true, true] (fun W' hk => lit_C (enc := Value.bool) false [true, true] (lit_kept (blk_new _ _) hk HI.out.new_row) rfl (by decide)) (by decide) (-1) (by rw [HM4.out]; exact order_w a b c)).mono ?_
    rintro e w6 ⟨rfl, hi, _⟩
    rw [HM4.out, order_on] at hi
    obtain ⟨M5, hM5⟩ : ∃ M, M = ordF (c) := ⟨_, rfl⟩
    replace hi : St w w6 g _ (ordF c) := hi
    rw [← hM5] at hi
    have HM5 := Aside0.mk hM5
    clear HI
    have HI := Aside0.mk hi
    clear hi hM5
    go_wp2_with fail
    refine (st_read HI.out 1).mono ?_
    rintro e w7 ⟨⟨A7, c7, l7⟩, he, hl, ho, hb⟩
    rw [show M5.rdE 1 = 0 by rw [HM5.out]; rfl] at he
    subst he
    replace hl : l7 = wholeF c := by rw [HM5.out] at hl; exact hl
    have hlen : l7.length = 512 := by rw [hl]; exact whole_len (HL.out).2.2
    obtain ⟨hc7, hC7⟩ := own_C ho
    obtain ⟨k7, c7', hv7, _⟩ := Kd.R_form ho (by show 0 < l7.length; omega)
    injection hv7 with q1 q2 q3
    subst q1
    have HI2 := Aside0.mk (HI.out.below hb)
    have HO := Aside0.mk ho
    have HC7 := Aside0.mk hC7
    unfold Sec.v
    have hm : (c).length ≤ 512 := (HL.out).2.2
    have cv1 : ∀ n, (convert 22 9 (.slice (some ⟨k7, 0, none⟩) (c).length c7)).run Try.prog (w7.drewN n) = .ok (.string (strOfNums c)) (w7.drewN n) := fun n => by
      have := cv_take (j := (c).length) hC7 (below_drewN w7 n) c7 (by omega)
      rw [hl, whole_take] at this
      exact this
    have cv2 : ∀ n, (convert 22 9 (.slice A2 (c).length c2)).run Try.prog (w7.drewN n) = .ok (.string (strOfNums c)) (w7.drewN n) := fun n => cv_all (HCL.out.2.2) (HI2.out.B.trans ((below_drewN w7 n).mono HI2.out.B.size)) c2
    have HLL := Aside0.mk hl
    have hcap : (c).length ≤ c7 := by omega
    clear hl ho hb hC7 HI q2 q3
    simp only [hlen]
    go_upto_region 15 with fail
    go_quiet (fail)
    have HW := Aside0.mk (HI2.out.below (below_drewN _ nq))
    have HC8 := Aside0.mk (Kd.C_below HC7.out (below_drewN w7 nq))
    have HR8 := Aside0.mk (show Own (w7.drewN nq) w6.heap.size (fun _ => True) ⟨some ⟨k7, 0, none⟩, c7, l7⟩ from Kd.R_drewN HO.out nq)
    generalize w7.drewN nq = w8 at HW HC8 HR8 ⊢
    clear cv1 cv2 HI2 HC7 HO
    have hge : 512 ≤ c7 := by omega
    by_cases hcc : c7 = (c).length
    · -- nothing stands behind
      have hm2 : (c).length = 512 := by omega
      have hcc' : c7 = 512 := by omega
      subst hcc'
      clear hcc hcap hge hc7 hm HL
      go_wp2
      have HMW := Aside0.mk (show M5.wait.length = 0 by rw [HM5.out]; rfl)
      go_loop [96] (fun i => i = .int .i64 0) (fun _ => 0)
      case atStart => rfl
      case round =>
        obtain rfl := hrel
        go_wp2_with fail
        refine (waits_a HW.out.I).mono ?_
        rw [HMW.out]
        rintro e w' ⟨rfl, rfl⟩
        have HBB := Aside0.mk HW.out.B
        clear HW
        go_wp2
        go_ret
        exact ⟨rfl, HBB.out⟩
    · have hlt2 : (c).length < c7 := by omega
      go_wp2
      have HMW := Aside0.mk (show M5.wait.length = 0 by rw [HM5.out]; rfl)
      obtain ⟨R, hR⟩ : ∃ R, R = 512 - (c).length := ⟨_, rfl⟩
      rw [← hR]
      have HR := Aside0.mk hR
      have hR5 : R ≤ 512 := by omega
      have hcR : R ≤ c7 - (c).length := by omega
      clear hR
      go_loop [96] (fun i => ∃ k : Nat, k ≤ R ∧ i = .int .i64 k) (fun i => R - (intOf i).toNat)
      case atStart => exact ⟨0, Nat.zero_le _, rfl⟩
      case round =>
        obtain ⟨k, hk, rfl⟩ := hrel
        by_cases hlt : k < R
        · have hcell : w8.cell? ⟨k7, (c).length + k, none⟩ = some (.int .u8 0) := whole_cell HR8.out HLL.out hm (by omega) (by have := HR.out; omega)
          go_wp2
          go_round
          case rel => exact ⟨k + 1, hlt, by go_num⟩
          case measure => simp [intOf]; omega
        · go_wp2_with fail
          refine (waits_a HW.out.I).mono ?_
          rw [HMW.out]
          rintro e w' ⟨rfl, rfl⟩
          have HBB := Aside0.mk HW.out.B
          clear HW
          go_wp2
          go_ret
          exact ⟨rfl, HBB.out⟩
end DiskOrder
end Go.Proofs.Ytihmfccpgahmaaa.Dk
