/- The law DiskTorn, walked: true, for whatever bytes, number and truth. -/
import Derived.Test.YtihmfccpgahmaaaDkConv
import Derived.Test.YtihmfccpgahmaaaBits
import Derived.Deep.QuietTactic
import Derived.BigQuiet
namespace Go.Proofs.Ytihmfccpgahmaaa.Dk
open Go Go.RowKit Go.Proofs.YtihmfccpgahmaaaW.PrintWords Go.Proofs.YtihmfccpgahmaaaW.PrintMore Go.Proofs.YtihmfccpgahmaaaW.PrintLast Go.Proofs.Ytihmfccpgahmaaa.Str
set_option linter.unusedVariables false
set_option linter.unusedSimpArgs false
theorem wrE_z {M : DA} {i : Int} {n : Nat} (h : M.ask i = 0) (h5 : n ≤ 512) (hf : M.stepE = 0) : M.wrE i n = 0 := by unfold DA.wrE; rw [h, if_neg (by omega), if_pos rfl, hf]
theorem lt8 {P : Nat → Prop} (h0 : P 0) (h1 : P 1) (h2 : P 2) (h3 : P 3) (h4 : P 4) (h5 : P 5) (h6 : P 6) (h7 : P 7) : ∀ t, t < 8 → P t := fun t ht => match t, ht with
  | 0, _ => h0
  | 1, _ => h1
  | 2, _ => h2
  | 3, _ => h3
  | 4, _ => h4
  | 5, _ => h5
  | 6, _ => h6
  | 7, _ => h7
namespace DiskTorn
def wk : Nat → Int
  | 0 => 0
  | n + 1 => wrap64 (wk n + 1)
def F8 : List Bool := List.replicate 8 false
def Lo (a : List Int) (i : Nat) : DA := ⟨List.replicate i a ++ List.replicate (8 - i) [], F8, List.replicate 8 [], F8, (List.range i).map (fun (k : Nat) => ((k : Int), a)), 0, false, wk i⟩
def to2 (a : List Int) : DA := ⟨List.replicate 8 a, F8, List.replicate 8 a, F8, [], 0, false, wk 9⟩
def to3 (a b : List Int) (t : Nat) : DA := ⟨(List.replicate 8 a).set t b, F8, List.replicate 8 a, F8, [((t : Int), b)], 0, false, wk 10⟩
def to4 (a b : List Int) (t : Nat) (keep : Bool) : DA := ⟨if keep then (List.replicate 8 a).set t b else List.replicate 8 a, if keep then F8 else F8.set t true, if keep then (List.replicate 8 a).set t b else List.replicate 8 a, if keep then F8 else F8.set t true, [], 0, false, wk 10⟩
theorem lo_0 (a : List Int) : DA.new (newN 8).toNat = Lo a 0 := rfl
theorem lo_wr (a : List Int) (ha : a.length ≤ 512) : ∀ i, i < 8 → (Lo a i).wr ((i : Nat) : Int) a = Lo a (i + 1) := by
  refine lt8 ?_ ?_ ?_ ?_ ?_ ?_ ?_ ?_
  all_goals
    unfold DA.wr
    rw [if_pos ⟨rfl, ha⟩]
    rfl
theorem lo_E (a : List Int) (ha : a.length ≤ 512) : ∀ i, i < 8 → (Lo a i).wrE ((i : Nat) : Int) a.length = 0 := by
  refine lt8 ?_ ?_ ?_ ?_ ?_ ?_ ?_ ?_
  all_goals exact wrE_z rfl ha rfl
theorem lo_w (a : List Int) (i : Nat) : (Lo a i).wait.length = i := by simp [Lo]
theorem to_sy (a : List Int) : (Lo a 8).sy = to2 a := rfl
theorem to_3 (a b : List Int) (hb : b.length ≤ 512) : ∀ t, t < 8 → (to2 a).wr ((t : Nat) : Int) b = to3 a b t := by
  refine lt8 ?_ ?_ ?_ ?_ ?_ ?_ ?_ ?_
  all_goals
    unfold DA.wr
    rw [if_pos ⟨rfl, hb⟩]
    rfl
theorem to_3E (a : List Int) (n : Nat) (hb : n ≤ 512) : ∀ t, t < 8 → (to2 a).wrE ((t : Nat) : Int) n = 0 := by
  refine lt8 ?_ ?_ ?_ ?_ ?_ ?_ ?_ ?_
  all_goals exact wrE_z rfl hb rfl
theorem to_on (a b : List Int) (keep : Bool) : ∀ t, t < 8 → (to3 a b t).on [keep] 0 = to4 a b t keep := by
  refine lt8 ?_ ?_ ?_ ?_ ?_ ?_ ?_ ?_
  all_goals (cases keep <;> rfl)
theorem to_rE (a b : List Int) (keep : Bool) : ∀ t, t < 8 → ∀ i, i < 8 → (to4 a b t keep).rdE ((i : Nat) : Int) = if i = t ∧ keep = false then 9 else 0 := by
  refine lt8 ?_ ?_ ?_ ?_ ?_ ?_ ?_ ?_
  all_goals
    refine lt8 ?_ ?_ ?_ ?_ ?_ ?_ ?_ ?_
    all_goals (cases keep <;> rfl)
theorem to_rB (a b : List Int) (keep : Bool) : ∀ t, t < 8 → ∀ i, i < 8 → rdOf [] (to4 a b t keep).now ((i : Nat) : Int) = if i = t ∧ keep = true then b else a := by
  refine lt8 ?_ ?_ ?_ ?_ ?_ ?_ ?_ ?_
  all_goals
    refine lt8 ?_ ?_ ?_ ?_ ?_ ?_ ?_ ?_
    all_goals (cases keep <;> rfl)
theorem rdB_of {M : DA} {i : Int} {l : List Int} (h : M.rdE i = 0) (hl : rdOf [] M.now i = l) : M.rdB i = wholeF l := by unfold DA.rdB; rw [if_pos h, hl]
/-- The last write and read. -/
def to5 (a b : List Int) (t : Nat) (keep : Bool) : DA := (to4 a b t keep).wr ((t : Nat) : Int) a
theorem to_5E (a b : List Int) (keep : Bool) (ha : a.length ≤ 512) : ∀ t, t < 8 → (to4 a b t keep).wrE ((t : Nat) : Int) a.length = 0 := by
  refine lt8 ?_ ?_ ?_ ?_ ?_ ?_ ?_ ?_
  all_goals (cases keep <;> exact wrE_z rfl ha rfl)
theorem to_5r (a b : List Int) (keep : Bool) (ha : a.length ≤ 512) : ∀ t, t < 8 → (to5 a b t keep).rdE ((t : Nat) : Int) = 0 ∧ rdOf [] (to5 a b t keep).now ((t : Nat) : Int) = a := by
  refine lt8 ?_ ?_ ?_ ?_ ?_ ?_ ?_ ?_
  all_goals
    unfold to5 DA.wr
    cases keep
    all_goals
      rw [if_pos ⟨rfl, ha⟩]
      exact ⟨rfl, rfl⟩
theorem to4_w (a b : List Int) (t : Nat) (keep : Bool) : (to4 a b t keep).wait.length = 0 := rfl

set_option maxRecDepth 100000 in
set_option maxHeartbeats 4000000 in
theorem law_ok (A0 : Option Addr) (c0 : Nat) (a : List Int) (A1 : Option Addr) (c1 : Nat) (b : List Int) (at_ : Int) (keep : Bool) (w : World)
    (hca : a.length ≤ c0) (hCa : Kd.C (Kd.int .u8) w A0 a.length a) (hwa : ∀ x ∈ a, (Lit.int .u8 x).wf = true) (hcb : b.length ≤ c1) (hCb : Kd.C (Kd.int .u8) w A1 b.length b) (hwb : ∀ x ∈ b, (Lit.int .u8 x).wf = true) (hat : (Lit.int .i64 at_).wf = true) :
    Calls Try.prog 3 #[.slice A0 a.length c0, .slice A1 b.length c1, .int .i64 at_, .bool keep] w fun e w' => e = .returned (.bool true) ∧ Below w.heap.size w w' := by
  have hA := hCa.2.1
  have hB := hCb.2.1
  by_cases hs : a.length ≤ 512 ∧ b.length ≤ 512
  case neg =>
    have t : ∀ n : Nat, (decide (512 < n) = false ∧ decide ((512 : Int) < (n : Int)) = false) ∨ (decide (512 < n) = true ∧ decide ((512 : Int) < (n : Int)) = true) := fun n => by
      rcases Nat.lt_or_ge 512 n with h | h
      · exact .inr ⟨decide_eq_true h, decide_eq_true (by omega)⟩
      · exact .inl ⟨decide_eq_false (by omega), decide_eq_false (by omega)⟩
    rcases t a.length with ⟨t1, u1⟩ | ⟨t1, u1⟩
    · have t2 : decide (512 < b.length) = true := decide_eq_true (by have h1 := of_decide_eq_false t1; omega)
      have u2 : decide ((512 : Int) < (b.length : Int)) = true := decide_eq_true (by have h := of_decide_eq_true t2; omega)
      clear hs t hCa hCb hwa hwb hca hcb hat
      go_enter Try.func3, Try.ntmps3
      go_wp2_with fail
      refine (head_ok _).mono ?_
      rintro e w0 ⟨rfl, hb⟩
      have HB := Aside0.mk hb
      clear hb
      go_wp2
      go_ret
      exact ⟨rfl, HB.out⟩
    · clear hs t hCa hCb hwa hwb hca hcb hat
      go_enter Try.func3, Try.ntmps3
      go_wp2_with fail
      refine (head_ok _).mono ?_
      rintro e w0 ⟨rfl, hb⟩
      have HB := Aside0.mk hb
      clear hb
      go_wp2
      go_ret
      exact ⟨rfl, HB.out⟩
  have HL := Aside0.mk hs
  obtain ⟨s1, s2⟩ := hs
  have t1 : decide (512 < a.length) = false := decide_eq_false (by omega)
  have t2 : decide (512 < b.length) = false := decide_eq_false (by omega)
  have u1 : decide ((512 : Int) < (a.length : Int)) = false := decide_eq_false (by omega)
  have u2 : decide ((512 : Int) < (b.length : Int)) = false := decide_eq_false (by omega)
  have HCL := Aside0.mk (And.intro hCa hCb)
  have HCC := Aside0.mk (And.intro hca hcb)
  obtain ⟨t, ht⟩ : ∃ t : Nat, at_ % 8 = (t : Int) := ⟨(at_ % 8).toNat, by omega⟩
  have HT := Aside0.mk (show t < 8 by omega)
  have hbit : bits .and .i64 at_ 7 = (t : Int) := (Bits.and_7 at_).trans ht
  clear hCa hCb hwa hwb s1 s2 hca hcb hat ht
  go_enter Try.func3, Try.ntmps3
  go_wp2_with fail
  refine (head_ok _).mono ?_
  rintro e w0 ⟨rfl, hb⟩
  have HB := Aside0.mk hb
  clear hb
  go_wp2_with fail
  refine (st_new (w0 := w) _ _ HB.out).mono ?_
  rintro e w1 ⟨g, S, rfl, hi, _, _⟩
  rw [lo_0 a] at hi
  have HI := Aside0.mk hi
  clear hi HB
  go_wp2
  go_loopw [10] (fun i wr => ∃ k : Nat, k ≤ 8 ∧ i = .int .i64 k ∧ Aside0 (∃ S, St w wr g S (Lo a k))) (fun i _ => 8 - (intOf i).toNat)
  case atStart => exact ⟨0, Nat.zero_le _, rfl, ⟨S, HI.out⟩⟩
  case round =>
    obtain ⟨k, hk, rfl, hR⟩ := hrel
    clear HI
    by_cases hlt : k < 8
    · obtain ⟨S1, hS1⟩ := hR.out
      have HI := Aside0.mk hS1
      clear hS1 hR
      go_wp2_with fail
      refine (st_write HI.out (k : Int) A0 c0 a (fun W' hk => Kd.C_below HCL.out.1 (HI.out.I.after hk HI.out.B HI.out.B.size)) HCC.out.1 (by rw [lo_w]; omega)).mono ?_
      rintro e w2 ⟨he, S2, hi, _, _⟩
      rw [lo_E a HL.out.1 k hlt] at he
      subst he
      rw [lo_wr a HL.out.1 k hlt] at hi
      have HN := Aside0.mk hi
      clear hi HI
      go_wp2
      go_roundw
      case rel => exact ⟨k + 1, hlt, by go_num, ⟨S2, HN.out⟩⟩
      case measure => simp [intOf]; omega
    · obtain rfl : k = 8 := by omega
      obtain ⟨S1, hS1⟩ := hR.out
      have HI := Aside0.mk hS1
      clear hS1 hR
      go_wp2_with fail
      refine (st_sync HI.out (by rw [lo_w]; omega)).mono ?_
      rintro e w3 ⟨he, hi, _⟩
      rw [show (Lo a 8).syE = 0 from rfl] at he
      subst he
      rw [to_sy] at hi
      clear HI
      have HI := Aside0.mk hi
      clear hi
      go_wp2_with fail
      refine (st_write HI.out (t : Int) A1 c1 b (fun W' hk => Kd.C_below HCL.out.2 (HI.out.I.after hk HI.out.B HI.out.B.size)) HCC.out.2 (by show 0 < 1000000; omega)).mono ?_
      rintro e w4 ⟨he, S4, hi, _, _⟩
      rw [to_3E a b.length HL.out.2 t HT.out] at he
      subst he
      rw [to_3 a b HL.out.2 t HT.out] at hi
      clear HI
      have HI := Aside0.mk hi
      clear hi
      go_wp2_with fail
      refine (st_on (HI.out.alloc (.cells #[.bool keep] 4 (0, 0))) _ 1 [keep] (fun W' hk => lit_C (enc := Value.bool) false [keep] (lit_kept (blk_new _ _) hk HI.out.new_row) rfl (by simp)) (by simp) 0 (by show 1 ≤ 1000000; omega)).mono ?_
      rintro e w5 ⟨rfl, hi, _⟩
      rw [to_on a b keep t HT.out] at hi
      clear HI
      have HI := Aside0.mk hi
      clear hi
      go_wp2
      go_loopw [11] (fun i wr => ∃ k : Nat, k ≤ 8 ∧ i = .int .i64 k ∧ Aside0 (St w wr g S4 (to4 a b t keep))) (fun i _ => 8 - (intOf i).toNat)
      case atStart => exact ⟨0, Nat.zero_le _, rfl, HI⟩
      case round =>
        obtain ⟨i, hk, rfl, hR⟩ := hrel
        clear HI
        by_cases hlt : i < 8
        · go_wp2_with fail
          refine (st_read hR.out (i : Int)).mono ?_
          rintro e w7 ⟨⟨A7, c7, l7⟩, he, hl, ho, hb⟩
          have hE := to_rE a b keep t HT.out i hlt
          have hBB := to_rB a b keep t HT.out i hlt
          rw [hE] at he
          have HN := Aside0.mk (hR.out.below hb)
          unfold Sec.v at he
          by_cases hit : i = t
          · subst hit
            cases keep with
            | false =>
              rw [if_pos ⟨rfl, rfl⟩] at he
              subst he
              have b1 : ((i : Int) == (i : Int)) = true := beq_self_eq_true _
              clear hE hBB hl ho hb hR
              go_wp2
              go_roundw
              case rel => exact ⟨i + 1, hlt, by go_num, HN⟩
              case measure => simp [intOf]; omega
            | true =>
              rw [if_neg (by simp)] at he hE
              rw [if_pos ⟨rfl, rfl⟩] at hBB
              subst he
              replace hl : l7 = wholeF b := hl.trans (rdB_of hE hBB)
              have hlen : l7.length = 512 := by rw [hl]; exact whole_len HL.out.2
              obtain ⟨hc7, hC7⟩ := own_C ho
              obtain ⟨k7, c7', hv7, _⟩ := Kd.R_form ho (by show 0 < l7.length; omega)
              injection hv7 with q1 q2 q3
              subst q1
              have hm : (b).length ≤ 512 := HL.out.2
              have cv1 : ∀ n, (convert 22 9 (.slice (some ⟨k7, 0, none⟩) (b).length c7)).run Try.prog (w7.drewN n) = .ok (.string (strOfNums b)) (w7.drewN n) := fun n => by
                have := cv_take (j := (b).length) hC7 (below_drewN w7 n) c7 (by omega)
                rw [hl, whole_take] at this
                exact this
              have cv2 : ∀ n, (convert 22 9 (.slice A1 (b).length c1)).run Try.prog (w7.drewN n) = .ok (.string (strOfNums b)) (w7.drewN n) := fun n => cv_all HCL.out.2 (HN.out.B.trans ((below_drewN w7 n).mono HN.out.B.size)) c1
              have hcap : (b).length ≤ c7 := by omega
              clear hl ho hb hC7 hR q2 q3 hE hBB
              simp only [hlen]
              go_upto_region 23 with fail
              go_quiet (fail)
              have HN8 := Aside0.mk (HN.out.below (below_drewN _ nq))
              generalize w7.drewN nq = w8 at HN8 ⊢
              clear cv1 cv2 HN
              go_wp2
              go_roundw
              case rel => exact ⟨i + 1, hlt, by go_num, HN8⟩
              case measure => simp [intOf]; omega
          · rw [if_neg (fun h => hit h.1)] at he hE hBB
            subst he
            have b1 : ((i : Int) == (t : Int)) = false := by simpa using (show (i : Int) ≠ (t : Int) by omega)
            have b2 : (i == t) = false := by simpa using hit
            replace hl : l7 = wholeF a := hl.trans (rdB_of hE hBB)
            have hlen : l7.length = 512 := by rw [hl]; exact whole_len HL.out.1
            obtain ⟨hc7, hC7⟩ := own_C ho
            obtain ⟨k7, c7', hv7, _⟩ := Kd.R_form ho (by show 0 < l7.length; omega)
            injection hv7 with q1 q2 q3
            subst q1
            have hm : (a).length ≤ 512 := HL.out.1
            have cv1 : ∀ n, (convert 22 9 (.slice (some ⟨k7, 0, none⟩) (a).length c7)).run Try.prog (w7.drewN n) = .ok (.string (strOfNums a)) (w7.drewN n) := fun n => by
              have := cv_take (j := (a).length) hC7 (below_drewN w7 n) c7 (by omega)
              rw [hl, whole_take] at this
              exact this
            have cv2 : ∀ n, (convert 22 9 (.slice A0 (a).length c0)).run Try.prog (w7.drewN n) = .ok (.string (strOfNums a)) (w7.drewN n) := fun n => cv_all HCL.out.1 (HN.out.B.trans ((below_drewN w7 n).mono HN.out.B.size)) c0
            have hcap : (a).length ≤ c7 := by omega
            clear hl ho hb hC7 hR q2 q3 hE hBB
            simp only [hlen]
            go_upto_region 25 with fail
            go_quiet (fail)
            have HN8 := Aside0.mk (HN.out.below (below_drewN _ nq))
            generalize w7.drewN nq = w8 at HN8 ⊢
            clear cv1 cv2 HN
            go_wp2
            go_roundw
            case rel => exact ⟨i + 1, hlt, by go_num, HN8⟩
            case measure => simp [intOf]; omega
        · obtain rfl : i = 8 := by omega
          have HI := hR
          clear hR
          go_wp2_with fail
          refine (st_write HI.out (t : Int) A0 c0 a (fun W' hk => Kd.C_below HCL.out.1 (HI.out.I.after hk HI.out.B HI.out.B.size)) HCC.out.1 (by rw [to4_w]; omega)).mono ?_
          rintro e w8 ⟨he, S8, hi, _, _⟩
          rw [to_5E a b keep HL.out.1 t HT.out] at he
          subst he
          clear HI
          have HI := Aside0.mk hi
          clear hi
          go_wp2_with fail
          have hR := HI
          obtain ⟨hE, hBB⟩ := to_5r a b keep HL.out.1 t HT.out
          refine (st_read hR.out (t : Int)).mono ?_
          rintro e w7 ⟨⟨A7, c7, l7⟩, he, hl, ho, hb⟩
          replace he : e = .returned (.tuple #[.slice A7 l7.length c7, .int .i64 0]) := by rw [he]; unfold to5 at hE; rw [hE]; rfl
          subst he
          have HN := Aside0.mk (hR.out.below hb)
          replace hl : l7 = wholeF a := hl.trans (rdB_of hE hBB)
          clear HI
          have hlen : l7.length = 512 := by rw [hl]; exact whole_len HL.out.1
          obtain ⟨hc7, hC7⟩ := own_C ho
          obtain ⟨k7, c7', hv7, _⟩ := Kd.R_form ho (by show 0 < l7.length; omega)
          injection hv7 with q1 q2 q3
          subst q1
          have hm : (a).length ≤ 512 := HL.out.1
          have cv1 : ∀ n, (convert 22 9 (.slice (some ⟨k7, 0, none⟩) (a).length c7)).run Try.prog (w7.drewN n) = .ok (.string (strOfNums a)) (w7.drewN n) := fun n => by
            have := cv_take (j := (a).length) hC7 (below_drewN w7 n) c7 (by omega)
            rw [hl, whole_take] at this
            exact this
          have cv2 : ∀ n, (convert 22 9 (.slice A0 (a).length c0)).run Try.prog (w7.drewN n) = .ok (.string (strOfNums a)) (w7.drewN n) := fun n => cv_all HCL.out.1 (HN.out.B.trans ((below_drewN w7 n).mono HN.out.B.size)) c0
          have hcap : (a).length ≤ c7 := by omega
          clear hl ho hb hC7 hR q2 q3 hE hBB
          simp only [hlen]
          go_upto_region 30 with fail
          go_quiet (fail)
          have HN8 := Aside0.mk (HN.out.below (below_drewN _ nq))
          generalize w7.drewN nq = w8 at HN8 ⊢
          clear cv1 cv2 HN
          have HBB := Aside0.mk HN8.out.B
          clear HN8
          go_wp2
          go_ret
          exact ⟨rfl, HBB.out⟩
end DiskTorn
end Go.Proofs.Ytihmfccpgahmaaa.Dk
