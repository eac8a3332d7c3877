/- disk.New, walked. -/
import Derived.Test.YtihmfccpgahmaaaDk
import Derived.Test.YtihmfccpgahmaaaWInv
import Derived.Test.YtihmfccpgahmaaaWInvWords
import Derived.Test.YtihmfccpgahmaaaWTab
import Derived.Test.YtihmfccpgahmaaaWLast
namespace Go.Proofs.Ytihmfccpgahmaaa.Dk
open Go Go.RowKit Go.Proofs.YtihmfccpgahmaaaW.PrintWords Go.Proofs.YtihmfccpgahmaaaW.PrintMore Go.Proofs.YtihmfccpgahmaaaW.PrintLast
set_option linter.unusedVariables false
set_option linter.unusedSimpArgs false

theorem infoR : (Try.prog.info? 22).map (fun i => (i.zero, i.size, i.bytes)) = some (some (.slice none 0 0), 1, 24) := by kernel_rfl
theorem infoT : (Try.prog.info? 4).map (fun i => (i.zero, i.size, i.bytes)) = some (some (.bool false), 1, 1) := by kernel_rfl

def dknewm.T2 : Bool × List (List Nat × List Nat) := (true, [([], []), ([0, 0], [0]), ([], []), ([2, 2], [2]), ([], []), ([4, 4], [4]), ([], []), ([6, 6], [6]), ([1, 3, 5, 7], [1, 3, 5, 7]), ([8], [8]), ([9, 0, 1, 2, 3, 4, 5, 6, 7, 8, 9], [9])])
def dknewm.B2 : List Nat := [0, 1, 0, 4, 0, 16, 0, 64, 255, 511, 1023]
theorem dknewm.tab2 : rtab .any (opsOf Try.f19 2) = dknewm.T2 := by kernel_rfl
theorem dknewm.bits2 : waitsOk dknewm.T2.2 dknewm.B2 = true := by kernel_rfl

theorem R_ok {α : Type} {enc : α → Value} {h1 : ∀ x, (enc x).oneCell' = true} {e : Nat} {w : World} {base : Nat} {ok ok' : Nat → Prop} {v : Value} {xs : List α} (h : (Kd.scalar enc h1).R e w base ok v xs) (hok : ∀ k, v.ownBlock = some k → ok' k) : (Kd.scalar enc h1).R e w base ok' v xs := Kd.R_of_own (Kd.own_of_R h) hok

def newD (n : Nat) : DkS := ⟨List.replicate n Sec.nil, List.replicate n false, List.replicate n Sec.nil, List.replicate n false, [], 0, false, 0⟩

/-- How many sectors. -/
def newN (n : Int) : Int := if 0 < (if 65536 < n then 65536 else n) then (if 65536 < n then 65536 else n) else 0

theorem own_nil (w : World) (base : Nat) (S : Nat → Prop) : Own w base S Sec.nil := Kd.R_nil _ _ _ _ _

set_option maxRecDepth 100000 in
set_option maxHeartbeats 4000000 in
theorem new_ok (n : Int) (w : World) : Calls Try.prog 19 #[.int .i64 n] w fun e w' => ∃ g r, e = .returned (.pointer (some ⟨g, 0, none⟩)) ∧ IsD w' w.heap.size g (fun k => w.heap.size ≤ k ∧ k < w'.heap.size) (newD (newN n).toNat) r ∧ Below w.heap.size w w' := by
  obtain ⟨m, hm⟩ : ∃ m : Int, m = newN n := ⟨_, rfl⟩
  have hm0 : 0 ≤ m := by rw [hm]; unfold newN; split <;> (try split) <;> omega
  have hm1 : m ≤ 65536 := by rw [hm]; unfold newN; split <;> (try split) <;> omega
  rw [← hm]
  unfold newN at hm
  go_enter Try.func19, Try.ntmps19
  go_upto_region 2 with fail
  rw [← hm]
  generalize (if (65536 : Int) < n then (65536 : Int) else n) = q5
  have HM := Aside0.mk (show 0 ≤ m ∧ m ≤ 65536 from ⟨hm0, hm1⟩)
  clear hm
  have HMa := Aside0.mk HM.out
  refine start_ (n := 11) (S := fun w' => True) (ds := []) #[false, false, false, false, false, false, false, false, false, false, false] (by kernel_rfl) rfl rfl trivial (fun hHeld => ?_)
  refine with_tabW dknewm.tab2 dknewm.bits2 (fun HT_ HW_ => ?_)
  have B1 : True := trivial
  have B3 : True := trivial
  have B5 : True := trivial
  have B7 : True := trivial
  have D15 : True := trivial
  have D37 : True := trivial
  have HB := Aside0.mk (below_drew (Below.refl w.heap.size w))
  generalize w.drew = wd at HB hHeld ⊢
  clear hHeld
  refine inv_at [0, 1, 2, 3, 4, 5, 6, 7, 8, 9, 10] (fun a0_ b a w' => ∃ (V1 : Value) (V3 : Value) (V5 : Value) (V7 : Value) (G : Nat) (m8_ : Value) (m9_ : Value) (m10_ : Value), a = putSel a0_ b [(0, 7, .int .i64 (m)), (1, 8, V1), (2, 9, .int .i64 (m)), (3, 10, V3), (4, 11, .int .i64 (m)), (5, 12, V5), (6, 13, .int .i64 (m)), (7, 14, V7), (8, 15, m8_), (9, 16, m9_), (10, 2, m10_)] ∧ (Below w.heap.size w w') ∧ (b 1 = true → kSec.R 22 w' w.heap.size (fun _ => True) V1 (List.replicate (m : Int).toNat Sec.nil)) ∧ (b 3 = true → Kd.bool.R 4 w' w.heap.size (fun _ => True) V3 (List.replicate (m : Int).toNat false)) ∧ (b 5 = true → kSec.R 22 w' w.heap.size (fun _ => True) V5 (List.replicate (m : Int).toNat Sec.nil)) ∧ (b 7 = true → Kd.bool.R 4 w' w.heap.size (fun _ => True) V7 (List.replicate (m : Int).toNat false)) ∧ (∀ k, V1.ownBlock = some k → k < w'.heap.size ∧ w.heap.size ≤ k) ∧ (∀ k, V3.ownBlock = some k → k < w'.heap.size ∧ w.heap.size ≤ k) ∧ (∀ k, V5.ownBlock = some k → k < w'.heap.size ∧ w.heap.size ≤ k) ∧ (∀ k, V7.ownBlock = some k → k < w'.heap.size ∧ w.heap.size ≤ k) ∧ (∀ k, V1.ownBlock = some k → V5.ownBlock ≠ some k) ∧ (∀ k, V3.ownBlock = some k → V7.ownBlock ≠ some k) ∧ (b 9 = true → w'.heap[G]? = some (.cells #[V1, V3, V5, V7, .slice none 0 0, .int .i64 0, .bool false, .int .i64 0] 83 (0, 0)) ∧ w.heap.size ≤ G) ∧ (b 8 = true → (m8_ : Value) = .agg #[V1, V3, V5, V7, .slice none 0 0, .int .i64 0, .bool false, .int .i64 0]) ∧ (b 9 = true → (m9_ : Value) = .pointer (some ⟨G, 0, none⟩)) ∧ (b 10 = true → (m10_ : Value) = .pointer (some ⟨G, 0, none⟩))) HT_.out HW_.out (by kernel_rfl) (by kernel_rfl) ?_ ?_ ?_
  · exact ⟨(.slice none 0 0), (.slice none 0 0), (.slice none 0 0), (.slice none 0 0), 0, .bool false, .bool false, .bool false, by simp only [putSel, Bool.false_eq_true, if_false], HB.out, fun h_ => absurd h_ (by decide), fun h_ => absurd h_ (by decide), fun h_ => absurd h_ (by decide), fun h_ => absurd h_ (by decide), (fun k hk => by simp [Value.ownBlock] at hk), (fun k hk => by simp [Value.ownBlock] at hk), (fun k hk => by simp [Value.ownBlock] at hk), (fun k hk => by simp [Value.ownBlock] at hk), (fun k hk => by simp [Value.ownBlock] at hk), (fun k hk => by simp [Value.ownBlock] at hk), fun h_ => absurd h_ (by decide), fun h_ => absurd h_ (by decide), fun h_ => absurd h_ (by decide), fun h_ => absurd h_ (by decide)⟩
  · skip
    clear B1 B3 B5 B7 D15 D37 HB
    refine steps_cons ?_ ?_
    · rintro b a w' ⟨V1, V3, V5, V7, G, m8_, m9_, m10_, ha, Q_HB, Q_F1, Q_F3, Q_F5, Q_F7, Q_B1, Q_B3, Q_B5, Q_B7, Q_D15, Q_D37, Q_BG, Q_X8_, Q_X9_, Q_X10_⟩ hb_ hon hoff
      refine ⟨_, rfl, fun K hK => ?_⟩
      have e3 : a.tmps[3]? = some (.int .i64 (m)) := by rw [ha]; exact (putSel_off rfl).trans rfl
      replace ha := Aside0.mk ha
      have HB := Aside0.mk Q_HB
      have B1 := Aside0.mk Q_B1
      have B3 := Aside0.mk Q_B3
      have B5 := Aside0.mk Q_B5
      have B7 := Aside0.mk Q_B7
      have D15 := Aside0.mk Q_D15
      have D37 := Aside0.mk Q_D37
      refine value_ (w1 := w') (v := .int .i64 (m)) (by rfl) rfl ?_ ?_
      · go_simp
        (try simp only [i64_w])
        try rfl
      refine hK.out _ _ ⟨V1, V3, V5, V7, G, m8_, m9_, m10_, (by rw [ha.out]; exact putSel_upk 0 hb_ rfl rfl rfl), Q_HB, fun h0_ => absurd ((hoff 1 (by kernel_rfl)).symm.trans h0_) (by decide), Q_F3, Q_F5, Q_F7, Q_B1, Q_B3, Q_B5, Q_B7, Q_D15, Q_D37, fun h0_ => absurd ((hoff 9 (by kernel_rfl)).symm.trans h0_) (by decide), fun h0_ => absurd ((hoff 8 (by kernel_rfl)).symm.trans h0_) (by decide), fun h0_ => absurd ((hoff 9 (by kernel_rfl)).symm.trans h0_) (by decide), fun h0_ => absurd ((hoff 10 (by kernel_rfl)).symm.trans h0_) (by decide)⟩
    refine steps_cons ?_ ?_
    · rintro b a w' ⟨V1, V3, V5, V7, G, m8_, m9_, m10_, ha, Q_HB, Q_F1, Q_F3, Q_F5, Q_F7, Q_B1, Q_B3, Q_B5, Q_B7, Q_D15, Q_D37, Q_BG, Q_X8_, Q_X9_, Q_X10_⟩ hb_ hon hoff
      refine ⟨_, rfl, fun K hK => ?_⟩
      have e7 : a.tmps[7]? = some (.int .i64 (m)) := by rw [ha]; exact putSel_on (e := (0, 7, .int .i64 (m))) 0 rfl rfl (hon 0 (by kernel_rfl)) rfl
      replace ha := Aside0.mk ha
      have HB := Aside0.mk Q_HB
      have B1 := Aside0.mk Q_B1
      have B3 := Aside0.mk Q_B3
      have B5 := Aside0.mk Q_B5
      have B7 := Aside0.mk Q_B7
      have D15 := Aside0.mk Q_D15
      have D37 := Aside0.mk Q_D37
      refine Kd.R_make_step kSec (w0 := w) w.heap.size 22 (by rfl) (N := 8) rfl 58 _ _ rfl (m) (by first | (simp only [Act.eval, Array.getD_eq_getD_getElem?, Option.getD_some, e7]; done) | (simp only [Act.eval, Array.getD_eq_getD_getElem?, Option.getD_some, e7]; rfl)) (by first | (simp only [Act.eval, Array.getD_eq_getD_getElem?, Option.getD_some, e7]; done) | (simp only [Act.eval, Array.getD_eq_getD_getElem?, Option.getD_some, e7]; rfl)) Try.underlying58 (.slice none 0 0) 24 infoR rfl (by decide) (by omega) Sec.nil (ok := fun _ => True) (okp := fun _ => True) (by first | rfl | exact ⟨_, _, rfl, rfl, rfl⟩) (fun _ hk => hk) trivial (by omega) (by omega) HB.out HB.out.size ?_
      intro v_ w_ hR_ hB_ hg_ hn_
      refine hK.out _ _ ⟨v_, V3, V5, V7, G, m8_, m9_, m10_, (by rw [ha.out]; exact putSel_upk 1 hb_ rfl rfl rfl), hB_, fun _ => hR_, fun h0_ => (Kd.R_grown (Q_F3 h0_) hg_ (fun _ _ => by simp)), fun h0_ => (Kd.R_grown (Q_F5 h0_) hg_ (fun _ _ => by simp)), fun h0_ => (Kd.R_grown (Q_F7 h0_) hg_ (fun _ _ => by simp)), (fun k hk => ⟨Kd.R_lt hR_ k hk, Kd.R_base hR_ k hk⟩), (fun k hk => ⟨Nat.lt_of_lt_of_le (B3.out k hk).1 hg_.size, (B3.out k hk).2⟩), (fun k hk => ⟨Nat.lt_of_lt_of_le (B5.out k hk).1 hg_.size, (B5.out k hk).2⟩), (fun k hk => ⟨Nat.lt_of_lt_of_le (B7.out k hk).1 hg_.size, (B7.out k hk).2⟩), (fun k ha hb => by obtain ⟨b_, hb1, hb2⟩ := hn_; have := (B5.out k hb).1; rw [ha] at hb1; injection hb1 with hb1; omega), Q_D37, fun h0_ => absurd ((hoff 9 (by kernel_rfl)).symm.trans h0_) (by decide), fun h0_ => absurd ((hoff 8 (by kernel_rfl)).symm.trans h0_) (by decide), fun h0_ => absurd ((hoff 9 (by kernel_rfl)).symm.trans h0_) (by decide), fun h0_ => absurd ((hoff 10 (by kernel_rfl)).symm.trans h0_) (by decide)⟩
    refine steps_cons ?_ ?_
    · rintro b a w' ⟨V1, V3, V5, V7, G, m8_, m9_, m10_, ha, Q_HB, Q_F1, Q_F3, Q_F5, Q_F7, Q_B1, Q_B3, Q_B5, Q_B7, Q_D15, Q_D37, Q_BG, Q_X8_, Q_X9_, Q_X10_⟩ hb_ hon hoff
      refine ⟨_, rfl, fun K hK => ?_⟩
      have e3 : a.tmps[3]? = some (.int .i64 (m)) := by rw [ha]; exact (putSel_off rfl).trans rfl
      replace ha := Aside0.mk ha
      have HB := Aside0.mk Q_HB
      have B1 := Aside0.mk Q_B1
      have B3 := Aside0.mk Q_B3
      have B5 := Aside0.mk Q_B5
      have B7 := Aside0.mk Q_B7
      have D15 := Aside0.mk Q_D15
      have D37 := Aside0.mk Q_D37
      refine value_ (w1 := w') (v := .int .i64 (m)) (by rfl) rfl ?_ ?_
      · go_simp
        (try simp only [i64_w])
        try rfl
      refine hK.out _ _ ⟨V1, V3, V5, V7, G, m8_, m9_, m10_, (by rw [ha.out]; exact putSel_upk 2 hb_ rfl rfl rfl), Q_HB, Q_F1, fun h0_ => absurd ((hoff 3 (by kernel_rfl)).symm.trans h0_) (by decide), Q_F5, Q_F7, Q_B1, Q_B3, Q_B5, Q_B7, Q_D15, Q_D37, fun h0_ => absurd ((hoff 9 (by kernel_rfl)).symm.trans h0_) (by decide), fun h0_ => absurd ((hoff 8 (by kernel_rfl)).symm.trans h0_) (by decide), fun h0_ => absurd ((hoff 9 (by kernel_rfl)).symm.trans h0_) (by decide), fun h0_ => absurd ((hoff 10 (by kernel_rfl)).symm.trans h0_) (by decide)⟩
    refine steps_cons ?_ ?_
    · rintro b a w' ⟨V1, V3, V5, V7, G, m8_, m9_, m10_, ha, Q_HB, Q_F1, Q_F3, Q_F5, Q_F7, Q_B1, Q_B3, Q_B5, Q_B7, Q_D15, Q_D37, Q_BG, Q_X8_, Q_X9_, Q_X10_⟩ hb_ hon hoff
      refine ⟨_, rfl, fun K hK => ?_⟩
      have e9 : a.tmps[9]? = some (.int .i64 (m)) := by rw [ha]; exact putSel_on (e := (2, 9, .int .i64 (m))) 2 rfl rfl (hon 2 (by kernel_rfl)) rfl
      replace ha := Aside0.mk ha
      have HB := Aside0.mk Q_HB
      have B1 := Aside0.mk Q_B1
      have B3 := Aside0.mk Q_B3
      have B5 := Aside0.mk Q_B5
      have B7 := Aside0.mk Q_B7
      have D15 := Aside0.mk Q_D15
      have D37 := Aside0.mk Q_D37
      refine Kd.R_make_step Kd.bool (w0 := w) w.heap.size 4 (by rfl) (N := 10) rfl 30 _ _ rfl (m) (by first | (simp only [Act.eval, Array.getD_eq_getD_getElem?, Option.getD_some, e9]; done) | (simp only [Act.eval, Array.getD_eq_getD_getElem?, Option.getD_some, e9]; rfl)) (by first | (simp only [Act.eval, Array.getD_eq_getD_getElem?, Option.getD_some, e9]; done) | (simp only [Act.eval, Array.getD_eq_getD_getElem?, Option.getD_some, e9]; rfl)) Try.underlying30 (.bool false) 1 infoT rfl (by decide) (by omega) false (ok := fun _ => True) (okp := fun _ => True) (by first | rfl | exact ⟨_, _, rfl, rfl, rfl⟩) (fun _ hk => hk) trivial (by omega) (by omega) HB.out HB.out.size ?_
      intro v_ w_ hR_ hB_ hg_ hn_
      refine hK.out _ _ ⟨V1, v_, V5, V7, G, m8_, m9_, m10_, (by rw [ha.out]; exact putSel_upk 3 hb_ rfl rfl rfl), hB_, fun h0_ => (Kd.R_grown (Q_F1 h0_) hg_ (fun _ _ => by simp)), fun _ => hR_, fun h0_ => (Kd.R_grown (Q_F5 h0_) hg_ (fun _ _ => by simp)), fun h0_ => (Kd.R_grown (Q_F7 h0_) hg_ (fun _ _ => by simp)), (fun k hk => ⟨Nat.lt_of_lt_of_le (B1.out k hk).1 hg_.size, (B1.out k hk).2⟩), (fun k hk => ⟨Kd.R_lt hR_ k hk, Kd.R_base hR_ k hk⟩), (fun k hk => ⟨Nat.lt_of_lt_of_le (B5.out k hk).1 hg_.size, (B5.out k hk).2⟩), (fun k hk => ⟨Nat.lt_of_lt_of_le (B7.out k hk).1 hg_.size, (B7.out k hk).2⟩), Q_D15, (fun k ha hb => by obtain ⟨b_, hb1, hb2⟩ := hn_; have := (B7.out k hb).1; rw [ha] at hb1; injection hb1 with hb1; omega), fun h0_ => absurd ((hoff 9 (by kernel_rfl)).symm.trans h0_) (by decide), fun h0_ => absurd ((hoff 8 (by kernel_rfl)).symm.trans h0_) (by decide), fun h0_ => absurd ((hoff 9 (by kernel_rfl)).symm.trans h0_) (by decide), fun h0_ => absurd ((hoff 10 (by kernel_rfl)).symm.trans h0_) (by decide)⟩
    refine steps_cons ?_ ?_
    · rintro b a w' ⟨V1, V3, V5, V7, G, m8_, m9_, m10_, ha, Q_HB, Q_F1, Q_F3, Q_F5, Q_F7, Q_B1, Q_B3, Q_B5, Q_B7, Q_D15, Q_D37, Q_BG, Q_X8_, Q_X9_, Q_X10_⟩ hb_ hon hoff
      refine ⟨_, rfl, fun K hK => ?_⟩
      have e3 : a.tmps[3]? = some (.int .i64 (m)) := by rw [ha]; exact (putSel_off rfl).trans rfl
      replace ha := Aside0.mk ha
      have HB := Aside0.mk Q_HB
      have B1 := Aside0.mk Q_B1
      have B3 := Aside0.mk Q_B3
      have B5 := Aside0.mk Q_B5
      have B7 := Aside0.mk Q_B7
      have D15 := Aside0.mk Q_D15
      have D37 := Aside0.mk Q_D37
      refine value_ (w1 := w') (v := .int .i64 (m)) (by rfl) rfl ?_ ?_
      · go_simp
        (try simp only [i64_w])
        try rfl
      refine hK.out _ _ ⟨V1, V3, V5, V7, G, m8_, m9_, m10_, (by rw [ha.out]; exact putSel_upk 4 hb_ rfl rfl rfl), Q_HB, Q_F1, Q_F3, fun h0_ => absurd ((hoff 5 (by kernel_rfl)).symm.trans h0_) (by decide), Q_F7, Q_B1, Q_B3, Q_B5, Q_B7, Q_D15, Q_D37, fun h0_ => absurd ((hoff 9 (by kernel_rfl)).symm.trans h0_) (by decide), fun h0_ => absurd ((hoff 8 (by kernel_rfl)).symm.trans h0_) (by decide), fun h0_ => absurd ((hoff 9 (by kernel_rfl)).symm.trans h0_) (by decide), fun h0_ => absurd ((hoff 10 (by kernel_rfl)).symm.trans h0_) (by decide)⟩
    refine steps_cons ?_ ?_
    · rintro b a w' ⟨V1, V3, V5, V7, G, m8_, m9_, m10_, ha, Q_HB, Q_F1, Q_F3, Q_F5, Q_F7, Q_B1, Q_B3, Q_B5, Q_B7, Q_D15, Q_D37, Q_BG, Q_X8_, Q_X9_, Q_X10_⟩ hb_ hon hoff
      refine ⟨_, rfl, fun K hK => ?_⟩
      have e11 : a.tmps[11]? = some (.int .i64 (m)) := by rw [ha]; exact putSel_on (e := (4, 11, .int .i64 (m))) 4 rfl rfl (hon 4 (by kernel_rfl)) rfl
      replace ha := Aside0.mk ha
      have HB := Aside0.mk Q_HB
      have B1 := Aside0.mk Q_B1
      have B3 := Aside0.mk Q_B3
      have B5 := Aside0.mk Q_B5
      have B7 := Aside0.mk Q_B7
      have D15 := Aside0.mk Q_D15
      have D37 := Aside0.mk Q_D37
      refine Kd.R_make_step kSec (w0 := w) w.heap.size 22 (by rfl) (N := 12) rfl 58 _ _ rfl (m) (by first | (simp only [Act.eval, Array.getD_eq_getD_getElem?, Option.getD_some, e11]; done) | (simp only [Act.eval, Array.getD_eq_getD_getElem?, Option.getD_some, e11]; rfl)) (by first | (simp only [Act.eval, Array.getD_eq_getD_getElem?, Option.getD_some, e11]; done) | (simp only [Act.eval, Array.getD_eq_getD_getElem?, Option.getD_some, e11]; rfl)) Try.underlying58 (.slice none 0 0) 24 infoR rfl (by decide) (by omega) Sec.nil (ok := fun _ => True) (okp := fun _ => True) (by first | rfl | exact ⟨_, _, rfl, rfl, rfl⟩) (fun _ hk => hk) trivial (by omega) (by omega) HB.out HB.out.size ?_
      intro v_ w_ hR_ hB_ hg_ hn_
      refine hK.out _ _ ⟨V1, V3, v_, V7, G, m8_, m9_, m10_, (by rw [ha.out]; exact putSel_upk 5 hb_ rfl rfl rfl), hB_, fun h0_ => (Kd.R_grown (Q_F1 h0_) hg_ (fun _ _ => by simp)), fun h0_ => (Kd.R_grown (Q_F3 h0_) hg_ (fun _ _ => by simp)), fun _ => hR_, fun h0_ => (Kd.R_grown (Q_F7 h0_) hg_ (fun _ _ => by simp)), (fun k hk => ⟨Nat.lt_of_lt_of_le (B1.out k hk).1 hg_.size, (B1.out k hk).2⟩), (fun k hk => ⟨Nat.lt_of_lt_of_le (B3.out k hk).1 hg_.size, (B3.out k hk).2⟩), (fun k hk => ⟨Kd.R_lt hR_ k hk, Kd.R_base hR_ k hk⟩), (fun k hk => ⟨Nat.lt_of_lt_of_le (B7.out k hk).1 hg_.size, (B7.out k hk).2⟩), (fun k ha hb => by obtain ⟨b_, hb1, hb2⟩ := hn_; have := (B1.out k ha).1; rw [hb] at hb1; injection hb1 with hb1; omega), Q_D37, fun h0_ => absurd ((hoff 9 (by kernel_rfl)).symm.trans h0_) (by decide), fun h0_ => absurd ((hoff 8 (by kernel_rfl)).symm.trans h0_) (by decide), fun h0_ => absurd ((hoff 9 (by kernel_rfl)).symm.trans h0_) (by decide), fun h0_ => absurd ((hoff 10 (by kernel_rfl)).symm.trans h0_) (by decide)⟩
    refine steps_cons ?_ ?_
    · rintro b a w' ⟨V1, V3, V5, V7, G, m8_, m9_, m10_, ha, Q_HB, Q_F1, Q_F3, Q_F5, Q_F7, Q_B1, Q_B3, Q_B5, Q_B7, Q_D15, Q_D37, Q_BG, Q_X8_, Q_X9_, Q_X10_⟩ hb_ hon hoff
      refine ⟨_, rfl, fun K hK => ?_⟩
      have e3 : a.tmps[3]? = some (.int .i64 (m)) := by rw [ha]; exact (putSel_off rfl).trans rfl
      replace ha := Aside0.mk ha
      have HB := Aside0.mk Q_HB
      have B1 := Aside0.mk Q_B1
      have B3 := Aside0.mk Q_B3
      have B5 := Aside0.mk Q_B5
      have B7 := Aside0.mk Q_B7
      have D15 := Aside0.mk Q_D15
      have D37 := Aside0.mk Q_D37
      refine value_ (w1 := w') (v := .int .i64 (m)) (by rfl) rfl ?_ ?_
      · go_simp
        (try simp only [i64_w])
        try rfl
      refine hK.out _ _ ⟨V1, V3, V5, V7, G, m8_, m9_, m10_, (by rw [ha.out]; exact putSel_upk 6 hb_ rfl rfl rfl), Q_HB, Q_F1, Q_F3, Q_F5, fun h0_ => absurd ((hoff 7 (by kernel_rfl)).symm.trans h0_) (by decide), Q_B1, Q_B3, Q_B5, Q_B7, Q_D15, Q_D37, fun h0_ => absurd ((hoff 9 (by kernel_rfl)).symm.trans h0_) (by decide), fun h0_ => absurd ((hoff 8 (by kernel_rfl)).symm.trans h0_) (by decide), fun h0_ => absurd ((hoff 9 (by kernel_rfl)).symm.trans h0_) (by decide), fun h0_ => absurd ((hoff 10 (by kernel_rfl)).symm.trans h0_) (by decide)⟩
    refine steps_cons ?_ ?_
    · rintro b a w' ⟨V1, V3, V5, V7, G, m8_, m9_, m10_, ha, Q_HB, Q_F1, Q_F3, Q_F5, Q_F7, Q_B1, Q_B3, Q_B5, Q_B7, Q_D15, Q_D37, Q_BG, Q_X8_, Q_X9_, Q_X10_⟩ hb_ hon hoff
      refine ⟨_, rfl, fun K hK => ?_⟩
      have e13 : a.tmps[13]? = some (.int .i64 (m)) := by rw [ha]; exact putSel_on (e := (6, 13, .int .i64 (m))) 6 rfl rfl (hon 6 (by kernel_rfl)) rfl
      replace ha := Aside0.mk ha
      have HB := Aside0.mk Q_HB
      have B1 := Aside0.mk Q_B1
      have B3 := Aside0.mk Q_B3
      have B5 := Aside0.mk Q_B5
      have B7 := Aside0.mk Q_B7
      have D15 := Aside0.mk Q_D15
      have D37 := Aside0.mk Q_D37
      refine Kd.R_make_step Kd.bool (w0 := w) w.heap.size 4 (by rfl) (N := 14) rfl 30 _ _ rfl (m) (by first | (simp only [Act.eval, Array.getD_eq_getD_getElem?, Option.getD_some, e13]; done) | (simp only [Act.eval, Array.getD_eq_getD_getElem?, Option.getD_some, e13]; rfl)) (by first | (simp only [Act.eval, Array.getD_eq_getD_getElem?, Option.getD_some, e13]; done) | (simp only [Act.eval, Array.getD_eq_getD_getElem?, Option.getD_some, e13]; rfl)) Try.underlying30 (.bool false) 1 infoT rfl (by decide) (by omega) false (ok := fun _ => True) (okp := fun _ => True) (by first | rfl | exact ⟨_, _, rfl, rfl, rfl⟩) (fun _ hk => hk) trivial (by omega) (by omega) HB.out HB.out.size ?_
      intro v_ w_ hR_ hB_ hg_ hn_
      refine hK.out _ _ ⟨V1, V3, V5, v_, G, m8_, m9_, m10_, (by rw [ha.out]; exact putSel_upk 7 hb_ rfl rfl rfl), hB_, fun h0_ => (Kd.R_grown (Q_F1 h0_) hg_ (fun _ _ => by simp)), fun h0_ => (Kd.R_grown (Q_F3 h0_) hg_ (fun _ _ => by simp)), fun h0_ => (Kd.R_grown (Q_F5 h0_) hg_ (fun _ _ => by simp)), fun _ => hR_, (fun k hk => ⟨Nat.lt_of_lt_of_le (B1.out k hk).1 hg_.size, (B1.out k hk).2⟩), (fun k hk => ⟨Nat.lt_of_lt_of_le (B3.out k hk).1 hg_.size, (B3.out k hk).2⟩), (fun k hk => ⟨Nat.lt_of_lt_of_le (B5.out k hk).1 hg_.size, (B5.out k hk).2⟩), (fun k hk => ⟨Kd.R_lt hR_ k hk, Kd.R_base hR_ k hk⟩), Q_D15, (fun k ha hb => by obtain ⟨b_, hb1, hb2⟩ := hn_; have := (B3.out k ha).1; rw [hb] at hb1; injection hb1 with hb1; omega), fun h0_ => absurd ((hoff 9 (by kernel_rfl)).symm.trans h0_) (by decide), fun h0_ => absurd ((hoff 8 (by kernel_rfl)).symm.trans h0_) (by decide), fun h0_ => absurd ((hoff 9 (by kernel_rfl)).symm.trans h0_) (by decide), fun h0_ => absurd ((hoff 10 (by kernel_rfl)).symm.trans h0_) (by decide)⟩
    refine steps_cons ?_ ?_
    · rintro b a w' ⟨V1, V3, V5, V7, G, m8_, m9_, m10_, ha, Q_HB, Q_F1, Q_F3, Q_F5, Q_F7, Q_B1, Q_B3, Q_B5, Q_B7, Q_D15, Q_D37, Q_BG, Q_X8_, Q_X9_, Q_X10_⟩ hb_ hon hoff
      refine ⟨_, rfl, fun K hK => ?_⟩
      have e8 : a.tmps[8]? = some (V1) := by rw [ha]; exact putSel_on (e := (1, 8, V1)) 1 rfl rfl (hon 1 (by kernel_rfl)) rfl
      have e10 : a.tmps[10]? = some (V3) := by rw [ha]; exact putSel_on (e := (3, 10, V3)) 3 rfl rfl (hon 3 (by kernel_rfl)) rfl
      have e12 : a.tmps[12]? = some (V5) := by rw [ha]; exact putSel_on (e := (5, 12, V5)) 5 rfl rfl (hon 5 (by kernel_rfl)) rfl
      have e14 : a.tmps[14]? = some (V7) := by rw [ha]; exact putSel_on (e := (7, 14, V7)) 7 rfl rfl (hon 7 (by kernel_rfl)) rfl
      replace ha := Aside0.mk ha
      have HB := Aside0.mk Q_HB
      have F1 := Aside0.mk (Q_F1 (hon 1 (by kernel_rfl)))
      have F3 := Aside0.mk (Q_F3 (hon 3 (by kernel_rfl)))
      have F5 := Aside0.mk (Q_F5 (hon 5 (by kernel_rfl)))
      have F7 := Aside0.mk (Q_F7 (hon 7 (by kernel_rfl)))
      have B1 := Aside0.mk Q_B1
      have B3 := Aside0.mk Q_B3
      have B5 := Aside0.mk Q_B5
      have B7 := Aside0.mk Q_B7
      have D15 := Aside0.mk Q_D15
      have D37 := Aside0.mk Q_D37
      obtain ⟨A1_, c1_, rfl, _⟩ := row_len F1.out
      obtain ⟨A3_, c3_, rfl, _⟩ := row_len F3.out
      obtain ⟨A5_, c5_, rfl, _⟩ := row_len F5.out
      obtain ⟨A7_, c7_, rfl, _⟩ := row_len F7.out
      refine value_ (w1 := w') (v := .agg #[(.slice A1_ (List.replicate (m : Int).toNat Sec.nil).length c1_), (.slice A3_ (List.replicate (m : Int).toNat false).length c3_), (.slice A5_ (List.replicate (m : Int).toNat Sec.nil).length c5_), (.slice A7_ (List.replicate (m : Int).toNat false).length c7_), .slice none 0 0, .int .i64 0, .bool false, .int .i64 0]) (by rfl) rfl ?_ ?_
      · go_simp
        (try simp only [i64_w])
        try rfl
      refine hK.out _ _ ⟨(.slice A1_ (List.replicate (m : Int).toNat Sec.nil).length c1_), (.slice A3_ (List.replicate (m : Int).toNat false).length c3_), (.slice A5_ (List.replicate (m : Int).toNat Sec.nil).length c5_), (.slice A7_ (List.replicate (m : Int).toNat false).length c7_), G, (.agg #[(.slice A1_ (List.replicate (m : Int).toNat Sec.nil).length c1_), (.slice A3_ (List.replicate (m : Int).toNat false).length c3_), (.slice A5_ (List.replicate (m : Int).toNat Sec.nil).length c5_), (.slice A7_ (List.replicate (m : Int).toNat false).length c7_), .slice none 0 0, .int .i64 0, .bool false, .int .i64 0]), m9_, m10_, (by rw [ha.out]; exact putSel_upk 8 hb_ rfl rfl rfl), Q_HB, Q_F1, Q_F3, Q_F5, Q_F7, Q_B1, Q_B3, Q_B5, Q_B7, Q_D15, Q_D37, fun h0_ => absurd ((hoff 9 (by kernel_rfl)).symm.trans h0_) (by decide), fun _ => rfl, fun h0_ => absurd ((hoff 9 (by kernel_rfl)).symm.trans h0_) (by decide), fun h0_ => absurd ((hoff 10 (by kernel_rfl)).symm.trans h0_) (by decide)⟩
    refine steps_cons ?_ ?_
    · rintro b a w' ⟨V1, V3, V5, V7, G, m8_, m9_, m10_, ha, Q_HB, Q_F1, Q_F3, Q_F5, Q_F7, Q_B1, Q_B3, Q_B5, Q_B7, Q_D15, Q_D37, Q_BG, Q_X8_, Q_X9_, Q_X10_⟩ hb_ hon hoff
      refine ⟨_, rfl, fun K hK => ?_⟩
      have e15 : a.tmps[15]? = some (m8_) := by rw [ha]; exact putSel_on (e := (8, 15, m8_)) 8 rfl rfl (hon 8 (by kernel_rfl)) rfl
      rw [Q_X8_ (hon 8 (by kernel_rfl))] at e15
      replace ha := Aside0.mk ha
      have HB := Aside0.mk Q_HB
      have F1 := Aside0.mk (Q_F1 (hon 1 (by kernel_rfl)))
      have F3 := Aside0.mk (Q_F3 (hon 3 (by kernel_rfl)))
      have F5 := Aside0.mk (Q_F5 (hon 5 (by kernel_rfl)))
      have F7 := Aside0.mk (Q_F7 (hon 7 (by kernel_rfl)))
      have B1 := Aside0.mk Q_B1
      have B3 := Aside0.mk Q_B3
      have B5 := Aside0.mk Q_B5
      have B7 := Aside0.mk Q_B7
      have D15 := Aside0.mk Q_D15
      have D37 := Aside0.mk Q_D37
      refine value_ (w1 := ?_) (v := ?_) (by rfl) rfl ?_ ?_
      rotate_left 2
      · go_simp
        constructor
        · rfl
        · rfl
      refine hK.out _ _ ⟨V1, V3, V5, V7, w'.heap.size, m8_, (.pointer (some ⟨w'.heap.size, 0, none⟩)), m10_, (by rw [ha.out]; exact putSel_upk 9 hb_ rfl rfl rfl), (below_alloc HB.out _), fun _ => (Kd.R_alloc F1.out _), fun _ => (Kd.R_alloc F3.out _), fun _ => (Kd.R_alloc F5.out _), fun _ => (Kd.R_alloc F7.out _), (fun k hk => ⟨Nat.lt_of_lt_of_le (B1.out k hk).1 (below_alloc (Below.refl _ _) _).size, (B1.out k hk).2⟩), (fun k hk => ⟨Nat.lt_of_lt_of_le (B3.out k hk).1 (below_alloc (Below.refl _ _) _).size, (B3.out k hk).2⟩), (fun k hk => ⟨Nat.lt_of_lt_of_le (B5.out k hk).1 (below_alloc (Below.refl _ _) _).size, (B5.out k hk).2⟩), (fun k hk => ⟨Nat.lt_of_lt_of_le (B7.out k hk).1 (below_alloc (Below.refl _ _) _).size, (B7.out k hk).2⟩), Q_D15, Q_D37, fun _ => ⟨blk_new _ _, HB.out.size⟩, Q_X8_, fun _ => rfl, fun h0_ => absurd ((hoff 10 (by kernel_rfl)).symm.trans h0_) (by decide)⟩
    refine steps_cons ?_ ?_
    · rintro b a w' ⟨V1, V3, V5, V7, G, m8_, m9_, m10_, ha, Q_HB, Q_F1, Q_F3, Q_F5, Q_F7, Q_B1, Q_B3, Q_B5, Q_B7, Q_D15, Q_D37, Q_BG, Q_X8_, Q_X9_, Q_X10_⟩ hb_ hon hoff
      refine ⟨_, rfl, fun K hK => ?_⟩
      have e16 : a.tmps[16]? = some (m9_) := by rw [ha]; exact putSel_on (e := (9, 16, m9_)) 9 rfl rfl (hon 9 (by kernel_rfl)) rfl
      rw [Q_X9_ (hon 9 (by kernel_rfl))] at e16
      replace ha := Aside0.mk ha
      have HB := Aside0.mk Q_HB
      have F1 := Aside0.mk (Q_F1 (hon 1 (by kernel_rfl)))
      have F3 := Aside0.mk (Q_F3 (hon 3 (by kernel_rfl)))
      have F5 := Aside0.mk (Q_F5 (hon 5 (by kernel_rfl)))
      have F7 := Aside0.mk (Q_F7 (hon 7 (by kernel_rfl)))
      have B1 := Aside0.mk Q_B1
      have B3 := Aside0.mk Q_B3
      have B5 := Aside0.mk Q_B5
      have B7 := Aside0.mk Q_B7
      have D15 := Aside0.mk Q_D15
      have D37 := Aside0.mk Q_D37
      have BG := Aside0.mk (Q_BG (hon 9 (by kernel_rfl)))
      refine value_ (w1 := w') (v := .pointer (some ⟨G, 0, none⟩)) (by rfl) rfl ?_ ?_
      · go_simp
        (try simp only [i64_w])
        try rfl
      refine hK.out _ _ ⟨V1, V3, V5, V7, G, m8_, m9_, (.pointer (some ⟨G, 0, none⟩)), (by rw [ha.out]; exact putSel_upk 10 hb_ rfl rfl rfl), Q_HB, Q_F1, Q_F3, Q_F5, Q_F7, Q_B1, Q_B3, Q_B5, Q_B7, Q_D15, Q_D37, Q_BG, Q_X8_, Q_X9_, fun _ => rfl⟩
    exact steps_nil
  rintro b a w' hall ⟨V1, V3, V5, V7, G, m8_, m9_, m10_, ha, Q_HB, Q_F1, Q_F3, Q_F5, Q_F7, Q_B1, Q_B3, Q_B5, Q_B7, Q_D15, Q_D37, Q_BG, Q_X8_, Q_X9_, Q_X10_⟩
  clear B1 B3 B5 B7 D15 D37 HB
  have hb0_ := hall 0 (by kernel_rfl)
  have hb1_ := hall 1 (by kernel_rfl)
  have hb2_ := hall 2 (by kernel_rfl)
  have hb3_ := hall 3 (by kernel_rfl)
  have hb4_ := hall 4 (by kernel_rfl)
  have hb5_ := hall 5 (by kernel_rfl)
  have hb6_ := hall 6 (by kernel_rfl)
  have hb7_ := hall 7 (by kernel_rfl)
  have hb8_ := hall 8 (by kernel_rfl)
  have hb9_ := hall 9 (by kernel_rfl)
  have hb10_ := hall 10 (by kernel_rfl)
  subst ha
  obtain rfl := Q_X8_ hb8_
  obtain rfl := Q_X9_ hb9_
  obtain rfl := Q_X10_ hb10_
  simp only [putSel, hb0_, hb1_, hb2_, hb3_, hb4_, hb5_, hb6_, hb7_, hb8_, hb9_, hb10_, if_true, Act.put, List.setIfInBounds_toArray, List.set_cons_zero, List.set_cons_succ]
  have HB := Aside0.mk Q_HB
  clear Q_HB
  have F1 := Aside0.mk (Q_F1 hb1_)
  clear Q_F1
  have F3 := Aside0.mk (Q_F3 hb3_)
  clear Q_F3
  have F5 := Aside0.mk (Q_F5 hb5_)
  clear Q_F5
  have F7 := Aside0.mk (Q_F7 hb7_)
  clear Q_F7
  have B1 := Aside0.mk Q_B1
  clear Q_B1
  have B3 := Aside0.mk Q_B3
  clear Q_B3
  have B5 := Aside0.mk Q_B5
  clear Q_B5
  have B7 := Aside0.mk Q_B7
  clear Q_B7
  have D15 := Aside0.mk Q_D15
  clear Q_D15
  have D37 := Aside0.mk Q_D37
  clear Q_D37
  have BG := Aside0.mk (Q_BG hb9_)
  clear Q_BG
  clear hall hb0_ hb1_ hb2_ hb3_ hb4_ hb5_ hb6_ hb7_ hb8_ hb9_ hb10_
  clear HM hm0 hm1
  go_wp2
  go_ret
  have hf1 := F1.out
  have hf3 := F3.out
  have hf5 := F5.out
  have hf7 := F7.out
  obtain ⟨hg1, hg2⟩ := BG.out
  have hlt := blk_lt hg1
  refine ⟨G, rfl, ⟨⟨V1, V3, V5, V7, .slice none 0 0⟩, ?_⟩, HB.out⟩
  have in1 : ∀ k, V1.ownBlock = some k → w.heap.size ≤ k ∧ k < _ := fun k hk => ⟨(B1.out k hk).2, (B1.out k hk).1⟩
  have in3 : ∀ k, V3.ownBlock = some k → w.heap.size ≤ k ∧ k < _ := fun k hk => ⟨(B3.out k hk).2, (B3.out k hk).1⟩
  have in5 : ∀ k, V5.ownBlock = some k → w.heap.size ≤ k ∧ k < _ := fun k hk => ⟨(B5.out k hk).2, (B5.out k hk).1⟩
  have in7 : ∀ k, V7.ownBlock = some k → w.heap.size ≤ k ∧ k < _ := fun k hk => ⟨(B7.out k hk).2, (B7.out k hk).1⟩
  exact {
    blk := hg1
    bound := fun k hk => hk
    sg := ⟨hg2, hlt⟩
    now := R_ok hf1 (fun k hk => ⟨in1 k hk, fun h => D15.out k hk h.symm⟩)
    safe := R_ok hf5 (fun k hk => ⟨in5 k hk, fun h => D15.out k h.symm hk⟩)
    torn := R_ok hf3 (fun k hk => ⟨in3 k hk, fun h => D37.out k hk h.symm⟩)
    bad := R_ok hf7 (fun k hk => ⟨in7 k hk, fun h => D37.out k h.symm hk⟩)
    wait := Kd.R_nil _ _ _ _ _
    onow := fun s hs => by rw [List.eq_of_mem_replicate hs]; exact own_nil _ _ _
    osafe := fun s hs => by rw [List.eq_of_mem_replicate hs]; exact own_nil _ _ _
    owait := fun s hs => by cases hs
    fnow := fun s hs => by rw [List.eq_of_mem_replicate hs]; simp [Sec.nil]
    fsafe := fun s hs => by rw [List.eq_of_mem_replicate hs]; simp [Sec.nil]
    fwait := fun s hs => by cases hs
    lt := by simp [newD]
    ls := by simp [newD]
    lb := by simp [newD]
    lw := fun s hs => by cases hs
    ln := by simp only [newD, List.length_replicate]; have := HMa.out; omega
    lf := ⟨Int.le_refl _, show (0 : Int) ≤ 9223372036854775807 by omega⟩ }
end Go.Proofs.Ytihmfccpgahmaaa.Dk
