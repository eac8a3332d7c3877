/- The law WalSectors, walked: true, for whatever bytes. -/
import Derived.Test.YtihmfccpgahmaaaWalSecP
import Derived.Test.YtihmfccpgahmaaaWalNeeds
namespace Go.Proofs.Ytihmfccpgahmaaa.Wal
open Go Go.RowKit
open Go.Proofs.YtihmfccpgahmaaaW.PrintWords hiding Kept Kept.refl
open Go.Proofs.YtihmfccpgahmaaaW.PrintMore Go.Proofs.YtihmfccpgahmaaaW.PrintLast Go.Proofs.Ytihmfccpgahmaaa.Dk Go.Proofs.Ytihmfccpgahmaaa.Q Go.Proofs.Ytihmfccpgahmaaa.Str Go.Proofs.Ytihmfccpgahmaaa.Leb
set_option linter.unusedVariables false
set_option linter.unusedSimpArgs false
theorem need_n (n : Nat) (h : n ≤ 100000) (w : World) : Calls Try.prog 34 #[.int .i64 (n : Int)] w fun e w' => e = .returned (.int .i64 ((needN n : Nat) : Int)) ∧ Below w.heap.size w w' := by
  rw [← need_N]
  exact need_r n (by omega) (by omega) w
theorem need_2000 {n : Nat} (h : n ≤ 2000) : needN n ≤ 5 := by unfold needN; omega
theorem Lg.argsW {w0 w W : World} {p g : Nat} {S : Nat → Prop} {L : LA} {M : DA} (h : Lg w0 w p g S L M) (hk : Kept w W (fun k => S k ∨ k = p)) : Below w0.heap.size w0 W :=
  kept_below hk h.D.B (fun k hq => hq.elim (fun q => (h.D.lt k q).1) (fun q => by rw [q]; exact h.P))
/-- The law's own bytes are a sector's. -/
theorem sec_eq {fl : Bool} (q : Nat) (r : List Int) (hy : Byt r) (j : Nat) (hj : j = min r.length 480) (hl : decide (r.length ≤ 480) = fl) {fi : Int} (hfi : (fl = true ∧ fi = 1) ∨ (fl = false ∧ fi = 0)) : (((([] ++ leb (q + 1)) ++ leb 1) ++ [fi]) ++ (leb (strOfNums (r.take j)).size ++ bytesOf (strOfNums (r.take j)))) = secB (q : Int) 1 fl (r.take 480) := by
  have htk : r.take j = r.take 480 := by
    rw [hj]
    rcases Nat.le_total r.length 480 with h | h
    · rw [Nat.min_eq_left h, List.take_length, List.take_of_length_le h]
    · rw [Nat.min_eq_right h]
  rw [htk, size_str, back (hy.take 480)]
  unfold secB
  rw [List.nil_append, show ((q : Int) + 1).toNat = q + 1 by omega, show (1 : Int).toNat = 1 from rfl]
  rcases hfi with ⟨rfl, rfl⟩ | ⟨rfl, rfl⟩
  · rw [if_pos rfl, leb_lt (n := 1) (by decide)]; rfl
  · rw [if_neg (by decide), leb_lt (n := 0) (by decide)]; rfl
theorem take_whole (l : List Int) : (wholeF l).take l.length = l := by unfold wholeF; exact List.take_left
theorem wu_succ {q : Nat} (h : q ≤ 100) : IntKind.u64.wrap ((q : Int) + 1) = ((q + 1 : Nat) : Int) := by rw [wu64 (by omega) (by omega)]; rfl
/-- One of the two rows of bytes. -/
theorem pick2 {w W : World} {kb e : Nat} {A0 A1 : Option Addr} {c0 c1 : Nat} {a b : List Int} {M : DA} {na nb : Nat} (hblk : W.heap[kb]? = some (.cells #[.slice A0 a.length c0, .slice A1 b.length c1] e (0, 0)))
    (ha : a.length ≤ c0 ∧ Kd.C (Kd.int .u8) w A0 a.length a ∧ Byt a) (hb : b.length ≤ c1 ∧ Kd.C (Kd.int .u8) w A1 b.length b ∧ Byt b) (hr : rawL sL0 M na 0 a ∧ rawL sL0 M nb na b) (hna : na = needN a.length) (hnb : nb = needN b.length) (j : Nat) (hj : j < 2) :
    ∃ (Ax : Option Addr) (cx : Nat) (x : List Int), W.cell? ⟨kb, j, none⟩ = some (.slice Ax x.length cx) ∧ x.length ≤ cx ∧ Kd.C (Kd.int .u8) w Ax x.length x ∧ Byt x ∧ rawL sL0 M (needN x.length) ((if j = 0 then 0 else na : Nat) : Int) x ∧ (if j = 0 then 0 else na) + needN x.length = (if j + 1 = 1 then na else na + nb) := by
  match j, hj with
  | 0, _ => exact ⟨A0, c0, a, (blk_cell hblk 0).trans rfl, ha.1, ha.2.1, ha.2.2, by rw [← hna]; exact hr.1, by rw [← hna]; simp⟩
  | 1, _ => exact ⟨A1, c1, b, (blk_cell hblk 1).trans rfl, hb.1, hb.2.1, hb.2.2, by rw [← hnb]; exact hr.2, by rw [← hnb]; simp⟩
namespace WalSectors
set_option maxRecDepth 100000 in
set_option maxHeartbeats 8000000 in
theorem law_n (A0 : Option Addr) (c0 : Nat) (a : List Int) (A1 : Option Addr) (c1 : Nat) (b : List Int) (w : World)
    (hca : a.length ≤ c0) (hCa : Kd.C (Kd.int .u8) w A0 a.length a) (hya : Byt a) (hcb : b.length ≤ c1) (hCb : Kd.C (Kd.int .u8) w A1 b.length b) (hyb : Byt b) (sa : a.length ≤ 2000) (sb : b.length ≤ 2000) :
    Calls Try.prog 10 #[.slice A0 a.length c0, .slice A1 b.length c1] w fun e w' => e = .returned (.bool true) ∧ Below w.heap.size w w' := by
  obtain ⟨M0, M1, M2, L1, L2, p1, p2, p3, p4, p5, p6, p7, p8⟩ := sec_all hya hyb sa sb
  have HA := Aside0.mk (And.intro hca (And.intro hCa (And.intro hya sa)))
  have HBB := Aside0.mk (And.intro hcb (And.intro hCb (And.intro hyb sb)))
  have HP := Aside0.mk (And.intro p1 (And.intro p2 (And.intro p3 (And.intro p4 p5))))
  have HR := Aside0.mk (And.intro p6 (And.intro p7 p8))
  have ta : decide (2000 < a.length) = false := decide_eq_false (by omega)
  have tb : decide (2000 < b.length) = false := decide_eq_false (by omega)
  have ta2 : decide ((2000 : Int) < (a.length : Int)) = false := decide_eq_false (by omega)
  have tb2 : decide ((2000 : Int) < (b.length : Int)) = false := decide_eq_false (by omega)
  have hla := hCa.2.1
  have hlb := hCb.2.1
  clear p1 p2 p3 p4 p5 p6 p7 p8 hca hCa hya hcb hCb hyb sa sb
  have HNW := Aside0.mk (And.intro (new_DY (newN 20).toNat) (show (DA.new (newN 20).toNat).wait.length = 0 from rfl))
  go_enter Try.func10, Try.ntmps10
  go_wp2_with fail
  refine (head_ok _).mono ?_
  rintro e w1 ⟨rfl, hb⟩
  have HB := Aside0.mk hb
  clear hb
  go_wp2_with fail
  refine (st_new (w0 := w) _ _ HB.out).mono ?_
  rintro e w2 ⟨g, S, rfl, hi, hb, hs⟩
  have HI := Aside0.mk hi
  clear hi HB hb hs
  go_wp2_with fail
  refine (open_s HI.out HNW.out.1 (by rw [HNW.out.2]; decide) 0 20 (by decide) (by decide) (L := sL0) (by rw [HP.out.1])).mono ?_
  rw [HP.out.1]
  rintro e w3 ⟨p, S3, rfl, _, hl, _, _⟩
  have HL := Aside0.mk (show Lg w w3 p g S3 sL0 M0 from hl)
  clear hl HI
  go_wp2_with fail
  refine (append_l HL.out HP.out.2.2.2.1.1 A0 c0 a (fun W' hk => Kd.C_below HA.out.2.1 (HL.out.argsW hk)) HA.out.1 HA.out.2.2.1 (by have := HP.out.2.2.2.1.2.2; omega) (by decide)).mono ?_
  rw [HP.out.2.1]
  rintro e w4 ⟨rfl, S4, hl, _, _⟩
  have HL1 := Aside0.mk (show Lg w w4 p g S4 L1 M1 from hl)
  clear hl HL
  go_wp2_with fail
  refine (append_l HL1.out HP.out.2.2.2.2.1 A1 c1 b (fun W' hk => Kd.C_below HBB.out.2.1 (HL1.out.argsW hk)) HBB.out.1 HBB.out.2.2.1 (by have := HP.out.2.2.2.2.2.2.1; omega) (by have := HP.out.2.2.2.2.2.2.2; omega)).mono ?_
  rw [HP.out.2.2.1]
  rintro e w5 ⟨rfl, S5, hl, _, _⟩
  have HD := Aside0.mk (show St w w5 g S5 M2 from hl.D)
  clear hl HL1 HP
  obtain ⟨na, hna⟩ : ∃ n, n = needN a.length := ⟨_, rfl⟩
  obtain ⟨nb, hnb⟩ : ∃ n, n = needN b.length := ⟨_, rfl⟩
  have HR2 := Aside0.mk (show rawL sL0 M2 na 0 a ∧ rawL sL0 M2 nb na b from ⟨by rw [hna]; exact HR.out.1, by rw [hnb, hna]; exact HR.out.2.1⟩)
  have HR8 := Aside0.mk HR.out.2.2
  have HN := Aside0.mk (show (na = needN a.length ∧ nb = needN b.length) ∧ na ≤ 5 ∧ nb ≤ 5 from ⟨⟨hna, hnb⟩, by rw [hna]; exact need_2000 HA.out.2.2.2, by rw [hnb]; exact need_2000 HBB.out.2.2.2⟩)
  rw [← hna]
  have hn5 : na ≤ 5 := HN.out.2.1
  clear hna hnb HR
  go_wp2_with fail
  refine (need_n a.length (by have := HA.out.2.2.2; omega) _).mono ?_
  rw [← HN.out.1.1]
  rintro e w6 ⟨rfl, hb⟩
  have HD2 := Aside0.mk (HD.out.below hb)
  clear hb HD
  go_wp2
  have hbn := below_alloc (Below.refl w6.heap.size w6) (.cells #[.slice A0 a.length c0, .slice A1 b.length c1] 22)
  have BX := Aside0.mk (blk_new w6 (.cells #[.slice A0 a.length c0, .slice A1 b.length c1] 22 (0, 0)))
  have HD3 := Aside0.mk (HD2.out.below hbn)
  clear HD2 hbn
  obtain ⟨kb, hkb⟩ : ∃ k, k = w6.heap.size := ⟨_, rfl⟩
  rw [← hkb] at BX ⊢
  clear hkb
  generalize w6.alloc (.cells #[.slice A0 a.length c0, .slice A1 b.length c1] 22) = wz at BX HD3 ⊢
  go_loopw [11, 71] (fun n i wr => ∃ j : Nat, j ≤ 2 ∧ i = .int .i64 j ∧ n = .int .u64 ((if j = 0 then 0 else if j = 1 then na else na + nb : Nat) : Int) ∧ Aside0 (Below wz.heap.size wz wr)) (fun _ i _ => 2 - (intOf i).toNat)
  case atStart => exact ⟨0, Nat.zero_le _, rfl, rfl, ⟨Below.refl _ _⟩⟩
  case round =>
    obtain ⟨j, hj, rfl, rfl, hR⟩ := hrel
    by_cases hlt : j < 2
    · obtain ⟨Ax, cx, x, hcell, q1, q2, q3, q4, q5⟩ := pick2 ((hR.out.block kb (blk_lt BX.out)).trans BX.out) ⟨HA.out.1, HA.out.2.1, HA.out.2.2.1⟩ ⟨HBB.out.1, HBB.out.2.1, HBB.out.2.2.1⟩ HR2.out HN.out.1.1 HN.out.1.2 j hlt
      obtain ⟨B, hB⟩ : ∃ B : Nat, B = if j = 0 then 0 else na := ⟨_, rfl⟩
      have hB2 : (if j = 0 then 0 else if j = 1 then na else na + nb : Nat) = B := by rw [hB]; split; rfl; rw [if_pos (by omega)]
      have hB3 : B ≤ 5 := by have := HN.out.2.1; rw [hB]; split <;> omega
      rw [← hB] at q4 q5
      rw [hB2]
      have hE : (if j + 1 = 0 then 0 else if j + 1 = 1 then na else na + nb : Nat) = B + needN x.length := by rw [if_neg (by omega), q5]
      have hE10 : B + needN x.length ≤ 10 := by have := HN.out.2; rw [q5]; split <;> omega
      have HE := Aside0.mk (And.intro hE hE10)
      have HX := Aside0.mk (And.intro q1 (And.intro q2 (And.intro q3 q4)))
      have hji : (j : Int) < 2 := by omega
      have hlx := q2.2.1
      clear q1 q2 q3 q4 q5 hB hB2 hB3 hE hE10
      go_wp2
      go_loopw [11, 13] (fun n v wr => ∃ (q : Nat) (r : List Int) (A' : Option Addr) (c' : Nat), v = .slice A' r.length c' ∧ n = .int .u64 (q : Int) ∧ Aside0 (Below wz.heap.size wz wr ∧ (r.length ≤ c' ∧ Kd.C (Kd.int .u8) w A' r.length r ∧ Byt r) ∧ (∃ k, rawL sL0 M2 k (q : Int) r) ∧ q + needN r.length = B + needN x.length)) (fun _ v _ => lenOf v)
      case atStart => exact ⟨B, x, Ax, cx, rfl, rfl, ⟨hR.out, ⟨HX.out.1, HX.out.2.1, HX.out.2.2.1⟩, ⟨_, HX.out.2.2.2⟩, rfl⟩⟩
      case round =>
        obtain ⟨q, r, A', c', rfl, rfl, hrel⟩ := hrel
        obtain ⟨h1, h2, ⟨k, h3⟩, h4⟩ := hrel.out
        obtain ⟨wa, hwa⟩ : ∃ x, x = wr := ⟨_, rfl⟩
        subst hwa
        obtain ⟨k, rfl⟩ : ∃ m, k = m + 1 := by cases k with
          | zero => exact h3.elim
          | succ k => exact ⟨k, rfl⟩
        have hpr := needN_pos r.length
        have HQ := Aside0.mk (show q + needN r.length ≤ 10 ∧ q ≤ 9 by have := HE.out.2; omega)
        have h3' := h3.1
        rw [sec_pl (by omega) (by have := HE.out.2; omega)] at h3'
        have HRW := Aside0.mk (And.intro h3' h3.2)
        have HC := Aside0.mk h2
        have HBW := Aside0.mk h1
        have HD4 := Aside0.mk (HD3.out.below h1)
        have HBA := Aside0.mk (HD3.out.below h1).B
        have HQE := Aside0.mk h4
        have hq9 : (q : Int) ≤ 9 := by have := HQ.out.2; omega
        have hlr := h2.2.1.2.1
        clear hrel h1 h2 h3 h3' h4 hcell hpr
        by_cases hl : r.length ≤ 480
        · have HRL0 := Aside0.mk (show r.length ≤ 1000000 from Nat.le_trans hl (by decide))
          have hRL := Aside0.mk (show r.length = r.length ∧ r.length ≤ r.length ∧ r.length = min r.length 480 from ⟨rfl, by omega, by omega⟩)
          have hts := Aside0.mk (show (strOfNums r).size ≤ 1000000 from by rw [size_str]; exact HRL0.out)
          have HL10 := Aside0.mk (show (((([] : List Int) ++ leb (q + 1)) ++ leb 1) ++ [(1 : Int)]).length ≤ 1000000 from by rw [List.length_append, List.length_append, List.nil_append]; have h1 : (leb (q + 1)).length ≤ 10 := leb_ten (by have := HQ.out; omega); have h2 : (leb 1).length ≤ 10 := leb_ten (by decide); show _ + 1 ≤ _; omega)
          have hfl : decide (r.length ≤ 480) = true := decide_eq_true hl
          have hrawB : M2.rdB (2 + (q : Int)) = wholeF (secB (q : Int) 1 true (r.take 480)) := by rw [← hfl]; exact HRW.out.1.2
          have hseq := sec_eq q r HC.out.2.2 (r.length) hRL.out.2.2 hfl (.inl ⟨rfl, rfl⟩)
          rw [List.take_length] at hseq
          obtain ⟨sB, hsB⟩ : ∃ s, s = secB (q : Int) 1 true (r.take 480) := ⟨_, rfl⟩
          have hsl : sB.length ≤ 512 := by rw [hsB]; exact sec_len (by have := HQ.out; omega) (by decide) (by rw [List.length_take]; omega)
          rw [← hsB] at hrawB hseq
          have HSB := Aside0.mk (And.intro hrawB (And.intro hseq hsl))
          clear hrawB hseq hsB hsl hfl
          have heq : ((r.length : Int) == (r.length : Int)) = true := by simp
          have hmin : min (r.length : Int) 480 = (r.length : Int) := by omega
          go_wp2_with fail
          refine (put_b (Below.refl wa.heap.size wa) (Rb.nil wa wa) ((q : Int) + 1) (by omega) (by have := HQ.out; omega) (by simp)).mono ?_
          rintro e w8 ⟨v8, rfl, hr, hb⟩
          rw [show ((q : Int) + 1).toNat = q + 1 by omega] at hr
          have HR8 := Aside0.mk hr
          have HB8 := Aside0.mk hb
          clear hr hb
          have HL8 := Aside0.mk (show (([] : List Int) ++ leb (q + 1)).length ≤ 10 by rw [List.nil_append]; exact leb_ten (by have := HQ.out; omega))
          go_wp2_with fail
          refine (put_b HB8.out HR8.out 1 (by decide) (by decide) (by have := HL8.out; omega)).mono ?_
          rintro e w9 ⟨v9, rfl, hr, hb⟩
          have HR9 := Aside0.mk (show Rb wa w9 v9 (([] ++ leb (q + 1)) ++ leb 1) from hr)
          have HB9 := Aside0.mk hb
          have HL9 := Aside0.mk (show ((([] : List Int) ++ leb (q + 1)) ++ leb 1).length ≤ 20 by have := HL8.out; rw [List.length_append]; have h2 : (leb 1).length ≤ 10 := leb_ten (by decide); omega)
          clear hr hb HR8 HB8
          have hrc := HC.out.1
          go_wp2_with (at_builtin; refine Kd.R_append (Kd.int .u8) (w0 := wa) wa.heap.size rfl (.tmp 86) (.tmp 87) 22 5 (.int .u8 0) 1 rfl Try.underlying22 infoB rfl (by decide) (by decide) _ (([] ++ leb (q + 1)) ++ leb 1) 1 [.int .u8 1] (fun _ => True) (fun _ => False) rfl rfl rfl (fun _ h => h.elim) (fun _ _ => trivial) HR9.out HB9.out HB9.out.size (by have := HL9.out; omega) ?_; intro v10 w10 hR hB _ _; have HR10 := Aside0.mk hR; have HB10 := Aside0.mk hB; have cv := cv_take HC.out.2.1 (HBA.out.trans (hB.mono HBA.out.size)) c' hRL.out.2.1; clear hR hB HR9 HB9)
          clear cv
          refine (text_b HB10.out HR10.out (strOfNums r) hts.out HL10.out).mono ?_
          rintro e w11 ⟨v11, rfl, hr, hb⟩
          rw [HSB.out.2.1] at hr
          obtain ⟨A11, c11, hv, hcc, hC11⟩ := Rb.open_ hr
          subst hv
          have HC11 := Aside0.mk (And.intro hcc hC11)
          have HB11 := Aside0.mk hb
          have HDa := Aside0.mk (HD4.out.below hb)
          clear hr hcc hC11 hb HR10 HB10
          go_wp2_with fail
          refine (st_read HDa.out (2 + (q : Int))).mono ?_
          rw [HRW.out.1.1]
          rintro e w12 ⟨⟨Ag, cg, lg⟩, rfl, hlg, ho, hb⟩
          have hlg' : lg = wholeF sB := hlg.trans HSB.out.1
          subst hlg'
          have hwl : (wholeF sB).length = 512 := whole_len HSB.out.2.2
          have cvG : ∀ q, (convert 22 9 (.slice Ag sB.length cg)).run Try.prog (w12.drewN q) = .ok (.string (strOfNums sB)) (w12.drewN q) := fun q => by
            have h_ := cv_take (own_C ho).2 (below_drewN w12 q) (j := sB.length) cg (by rw [hwl]; exact HSB.out.2.2)
            rw [take_whole] at h_
            exact h_
          have cvS : ∀ q, (convert 22 9 (.slice A11 sB.length c11)).run Try.prog (w12.drewN q) = .ok (.string (strOfNums sB)) (w12.drewN q) := fun q => cv_all HC11.out.2 (below_step hb (below_drewN w12 q)) c11
          have hsc : sB.length ≤ cg := Nat.le_trans HSB.out.2.2 (hwl ▸ (own_C ho).1)
          have hs5 : sB.length ≤ 512 := HSB.out.2.2
          have HB12 := Aside0.mk (HBW.out.trans ((HB11.out.mono (Nat.le_refl _)).mono HBW.out.size))
          have HB13 := Aside0.mk (HB12.out.trans (hb.mono HB12.out.size))
          unfold Sec.v
          clear hlg ho hb hwl HB12 HB11 HC11 HDa
          go_upto_region 24 with fail
          go_quiet (fail)
          have HBQ := Aside0.mk (HB13.out.trans ((below_drewN w12 nq).mono HB13.out.size))
          generalize w12.drewN nq = w13 at HBQ ⊢
          clear cvG cvS hsc hs5 HB13
          go_wp2
          go_roundw
          case rel => exact ⟨j + 1, hlt, by go_num, congrArg (Value.int .u64) (by rw [HE.out.1, ← HQE.out, needN_one hl]; rfl), HBQ⟩
          case measure => simp [intOf]; omega
        · have HRL0 := Aside0.mk (show 480 ≤ 1000000 from by decide)
          have hRL := Aside0.mk (show r.length = r.length ∧ 480 ≤ r.length ∧ 480 = min r.length 480 from ⟨rfl, by omega, by omega⟩)
          have hts := Aside0.mk (show (strOfNums (r.take (480))).size ≤ 1000000 from by rw [size_str]; exact Nat.le_trans (List.length_take_le ..) (HRL0.out))
          have HL10 := Aside0.mk (show (((([] : List Int) ++ leb (q + 1)) ++ leb 1) ++ [(0 : Int)]).length ≤ 1000000 from by rw [List.length_append, List.length_append, List.nil_append]; have h1 : (leb (q + 1)).length ≤ 10 := leb_ten (by have := HQ.out; omega); have h2 : (leb 1).length ≤ 10 := leb_ten (by decide); show _ + 1 ≤ _; omega)
          have hfl : decide (r.length ≤ 480) = false := decide_eq_false hl
          have hrawB : M2.rdB (2 + (q : Int)) = wholeF (secB (q : Int) 1 false (r.take 480)) := by rw [← hfl]; exact HRW.out.1.2
          have hseq := sec_eq q r HC.out.2.2 (480) hRL.out.2.2 hfl (.inr ⟨rfl, rfl⟩)
          obtain ⟨sB, hsB⟩ : ∃ s, s = secB (q : Int) 1 false (r.take 480) := ⟨_, rfl⟩
          have hsl : sB.length ≤ 512 := by rw [hsB]; exact sec_len (by have := HQ.out; omega) (by decide) (by rw [List.length_take]; omega)
          rw [← hsB] at hrawB hseq
          have HSB := Aside0.mk (And.intro hrawB (And.intro hseq hsl))
          clear hrawB hseq hsB hsl hfl
          have heq : ((480 : Int) == (r.length : Int)) = false := beq_eq_false_iff_ne.mpr (by omega)
          have hmin : min (r.length : Int) 480 = (480 : Int) := by omega
          go_wp2_with fail
          refine (put_b (Below.refl wa.heap.size wa) (Rb.nil wa wa) ((q : Int) + 1) (by omega) (by have := HQ.out; omega) (by simp)).mono ?_
          rintro e w8 ⟨v8, rfl, hr, hb⟩
          rw [show ((q : Int) + 1).toNat = q + 1 by omega] at hr
          have HR8 := Aside0.mk hr
          have HB8 := Aside0.mk hb
          clear hr hb
          have HL8 := Aside0.mk (show (([] : List Int) ++ leb (q + 1)).length ≤ 10 by rw [List.nil_append]; exact leb_ten (by have := HQ.out; omega))
          go_wp2_with fail
          refine (put_b HB8.out HR8.out 1 (by decide) (by decide) (by have := HL8.out; omega)).mono ?_
          rintro e w9 ⟨v9, rfl, hr, hb⟩
          have HR9 := Aside0.mk (show Rb wa w9 v9 (([] ++ leb (q + 1)) ++ leb 1) from hr)
          have HB9 := Aside0.mk hb
          have HL9 := Aside0.mk (show ((([] : List Int) ++ leb (q + 1)) ++ leb 1).length ≤ 20 by have := HL8.out; rw [List.length_append]; have h2 : (leb 1).length ≤ 10 := leb_ten (by decide); omega)
          clear hr hb HR8 HB8
          have hrc := HC.out.1
          go_wp2_with (at_builtin; refine Kd.R_append (Kd.int .u8) (w0 := wa) wa.heap.size rfl (.tmp 89) (.tmp 90) 22 5 (.int .u8 0) 1 rfl Try.underlying22 infoB rfl (by decide) (by decide) _ (([] ++ leb (q + 1)) ++ leb 1) 0 [.int .u8 0] (fun _ => True) (fun _ => False) rfl rfl rfl (fun _ h => h.elim) (fun _ _ => trivial) HR9.out HB9.out HB9.out.size (by have := HL9.out; omega) ?_; intro v10 w10 hR hB _ _; have HR10 := Aside0.mk hR; have HB10 := Aside0.mk hB; have cv := cv_take HC.out.2.1 (HBA.out.trans (hB.mono HBA.out.size)) c' hRL.out.2.1; clear hR hB HR9 HB9)
          clear cv
          refine (text_b HB10.out HR10.out (strOfNums (r.take (480))) hts.out HL10.out).mono ?_
          rintro e w11 ⟨v11, rfl, hr, hb⟩
          rw [HSB.out.2.1] at hr
          obtain ⟨A11, c11, hv, hcc, hC11⟩ := Rb.open_ hr
          subst hv
          have HC11 := Aside0.mk (And.intro hcc hC11)
          have HB11 := Aside0.mk hb
          have HDa := Aside0.mk (HD4.out.below hb)
          clear hr hcc hC11 hb HR10 HB10
          go_wp2_with fail
          refine (st_read HDa.out (2 + (q : Int))).mono ?_
          rw [HRW.out.1.1]
          rintro e w12 ⟨⟨Ag, cg, lg⟩, rfl, hlg, ho, hb⟩
          have hlg' : lg = wholeF sB := hlg.trans HSB.out.1
          subst hlg'
          have hwl : (wholeF sB).length = 512 := whole_len HSB.out.2.2
          have cvG : ∀ q, (convert 22 9 (.slice Ag sB.length cg)).run Try.prog (w12.drewN q) = .ok (.string (strOfNums sB)) (w12.drewN q) := fun q => by
            have h_ := cv_take (own_C ho).2 (below_drewN w12 q) (j := sB.length) cg (by rw [hwl]; exact HSB.out.2.2)
            rw [take_whole] at h_
            exact h_
          have cvS : ∀ q, (convert 22 9 (.slice A11 sB.length c11)).run Try.prog (w12.drewN q) = .ok (.string (strOfNums sB)) (w12.drewN q) := fun q => cv_all HC11.out.2 (below_step hb (below_drewN w12 q)) c11
          have hsc : sB.length ≤ cg := Nat.le_trans HSB.out.2.2 (hwl ▸ (own_C ho).1)
          have hs5 : sB.length ≤ 512 := HSB.out.2.2
          have HB12 := Aside0.mk (HBW.out.trans ((HB11.out.mono (Nat.le_refl _)).mono HBW.out.size))
          have HB13 := Aside0.mk (HB12.out.trans (hb.mono HB12.out.size))
          unfold Sec.v
          clear hlg ho hb hwl HB12 HB11 HC11 HDa
          go_upto_region 24 with fail
          go_quiet (fail)
          have HBQ := Aside0.mk (HB13.out.trans ((below_drewN w12 nq).mono HB13.out.size))
          generalize w12.drewN nq = w13 at HBQ ⊢
          clear cvG cvS hsc hs5 HB13
          have hcj : ¬ c' = 480 := by omega
          go_wp2
          go_roundw
          case rel =>
            have hd : (r.drop 480).length = r.length - 480 := List.length_drop
            refine ⟨q + 1, r.drop 480, A'.map (·.add 480), c' - 480, (by rw [List.length_drop]; first | rfl | (cases A' <;> simp [Addr.add])), by go_num, ⟨HBQ.out, ⟨by rw [hd]; omega, ?_, HC.out.2.2.drop 480⟩, ⟨_, HRW.out.2 (by omega)⟩, ?_⟩⟩
            · have h_ := Kd.C_drop (m := 480) (c := c') HC.out.2.1 hRL.out.2.1 HC.out.1
              rw [if_neg hcj, show 480 * (Kd.int .u8).sz = 480 from Nat.mul_one _] at h_
              exact h_
            · have h1 := needN_more (show 480 < r.length by omega)
              have h2 := HQE.out
              rw [hd]
              omega
          case measure => simp [lenOf] <;> omega
    · have hj2 : j = 2 := by omega
      subst hj2
      have HD5 := Aside0.mk (HD3.out.below hR.out)
      clear hlt hj hR
      go_wp2_with fail
      refine (st_read HD5.out 1).mono ?_
      rw [HR8.out.1]
      rintro e w12 ⟨⟨Ag, cg, lg⟩, rfl, hlg, ho, hb⟩
      have hlg' : lg = wholeF sL0.mb := hlg.trans HR8.out.2
      subst hlg'
      have hmb : sL0.mb.length ≤ 512 := by
        have h := congrArg List.length sec_mb
        have hN : sL0.Nm := ⟨⟨by decide, by decide⟩, ⟨by decide, by decide⟩, ⟨by decide, by decide⟩, ⟨by decide, by decide⟩, ⟨by decide, by decide⟩⟩
        have := mb_len hN
        omega
      have hwl : (wholeF sL0.mb).length = 512 := whole_len hmb
      have cvM : (convert 22 9 (.slice Ag 9 cg)).run Try.prog w12 = .ok (.string ⟨#[4, 100, 111, 99, 107, 1, 1, 0, 1]⟩) w12 := by
        have h_ := cv_take (own_C ho).2 (Below.refl _ w12) (j := 9) cg (by rw [hwl]; decide)
        rw [sec_mb, show strOfNums [4, 100, 111, 99, 107, 1, 1, 0, 1] = ⟨#[4, 100, 111, 99, 107, 1, 1, 0, 1]⟩ by decide +kernel] at h_
        exact h_
      have hcg : 9 ≤ cg := Nat.le_trans (by decide) (hwl ▸ (own_C ho).1 : 512 ≤ cg)
      have HBE := Aside0.mk (HD5.out.below hb).B
      unfold Sec.v
      clear hlg ho hb hmb hwl HD5
      go_wp2
      go_ret
      exact ⟨by simp, HBE.out⟩
set_option maxRecDepth 100000 in
set_option maxHeartbeats 4000000 in
theorem law_ok (A0 : Option Addr) (c0 : Nat) (a : List Int) (A1 : Option Addr) (c1 : Nat) (b : List Int) (w : World)
    (hca : a.length ≤ c0) (hCa : Kd.C (Kd.int .u8) w A0 a.length a) (hwa : ∀ x ∈ a, (Lit.int .u8 x).wf = true) (hcb : b.length ≤ c1) (hCb : Kd.C (Kd.int .u8) w A1 b.length b) (hwb : ∀ x ∈ b, (Lit.int .u8 x).wf = true) :
    Calls Try.prog 10 #[.slice A0 a.length c0, .slice A1 b.length c1] w fun e w' => e = .returned (.bool true) ∧ Below w.heap.size w w' := by
  by_cases hs : a.length ≤ 2000 ∧ b.length ≤ 2000
  · exact law_n A0 c0 a A1 c1 b w hca hCa (Byt.of_wf hwa) hcb hCb (Byt.of_wf hwb) hs.1 hs.2
  · have hA := hCa.2.1
    have hB := hCb.2.1
    have hd : (decide (2000 < a.length) = true ∧ decide ((2000 : Int) < (a.length : Int)) = true) ∨ ((decide (2000 < a.length) = false ∧ decide ((2000 : Int) < (a.length : Int)) = false) ∧ decide (2000 < b.length) = true ∧ decide ((2000 : Int) < (b.length : Int)) = true) := by
      rcases Nat.lt_or_ge 2000 a.length with h | h
      · exact .inl ⟨decide_eq_true h, decide_eq_true (by omega)⟩
      · have h2 : 2000 < b.length := by omega
        exact .inr ⟨⟨decide_eq_false (by omega), decide_eq_false (by omega)⟩, decide_eq_true h2, decide_eq_true (by omega)⟩
    clear hs hCa hCb hwa hwb hca hcb
    rcases hd with ⟨t1, u1⟩ | ⟨⟨t1, u1⟩, t2, u2⟩
    all_goals
      go_enter Try.func10, Try.ntmps10
      go_wp2_with fail
      refine (head_ok _).mono ?_
      rintro e w0 ⟨rfl, hb⟩
      have HB := Aside0.mk hb
      clear hb
      go_wp2
      go_ret
      exact ⟨rfl, HB.out⟩
end WalSectors
end Go.Proofs.Ytihmfccpgahmaaa.Wal
