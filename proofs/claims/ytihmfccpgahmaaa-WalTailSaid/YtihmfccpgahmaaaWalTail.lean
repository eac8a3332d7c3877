/- The law WalTail, walked: true, for whatever bytes and numbers. -/
import Derived.Test.YtihmfccpgahmaaaWalCr
import Derived.Test.YtihmfccpgahmaaaWalNeeds
import Derived.Test.YtihmfccpgahmaaaBits
namespace Go.Proofs.Ytihmfccpgahmaaa.Wal
open Go Go.RowKit
open Go.Proofs.YtihmfccpgahmaaaW.PrintWords hiding Kept Kept.refl
open Go.Proofs.YtihmfccpgahmaaaW.PrintMore Go.Proofs.YtihmfccpgahmaaaW.PrintLast Go.Proofs.Ytihmfccpgahmaaa.Dk Go.Proofs.Ytihmfccpgahmaaa.Q Go.Proofs.Ytihmfccpgahmaaa.Str Go.Proofs.Ytihmfccpgahmaaa.Leb
set_option linter.unusedVariables false
set_option linter.unusedSimpArgs false
def strs (es : List (Int × List Int)) : List ByteArray := es.map fun x => strOfNums x.2
theorem numb_strs : ∀ (es : List (Int × List Int)) (a : Int), (numb a es).map (fun x => strOfNums x.2) = strs es
  | [], _ => rfl
  | x :: t, a => congrArg (strOfNums x.2 :: ·) (numb_strs t _)
theorem strs_app (es ws : List (Int × List Int)) : strs (es ++ ws) = strs es ++ strs ws := List.map_append
/-- Of two waiting entries one sector is lost. -/
theorem crash_lost {M : DA} {N c : Nat} {L : LA} {es : List (Int × List Int)} {l1 l2 : Int} {a b : List Int} (h : LI N c L M es [(l1, a), (l2, b)]) (hc : c ≤ 999999) (keep : List Bool) (lost : Nat) (hk : ∀ k, k < needN a.length + needN b.length → keep.getD k false = decide (k ≠ lost)) (hl : lost < needN a.length + needN b.length) (tear : Int) :
    ∃ L' M', opn (M.on keep tear) L.fr (L.ring + 2) = ⟨some L', 0, M'⟩ ∧ LI N (c + 1) L' M' (es ++ if lost < needN a.length then [] else [(l1, a)]) [] ∧ L'.life = L.life + 1 ∧ L'.start = L.start ∧ L'.fr = L.fr ∧ L'.ring = L.ring ∧ L'.next ≤ L.next := by
  obtain ⟨t1, t2, z, L', M', hL, e, li, k1, k2, k3, k4, k5, _⟩ := h.C.crash hc keep tear
  have hw := h.wf
  have hsz := Ents.size _ _ _ h.C.eW
  have hs2 : szs [(l1, a), (l2, b)] = needN a.length + (needN b.length + 0) := rfl
  have na := needN_pos a.length
  have nb := needN_pos b.length
  have hz0 := hL.z0
  have hzl := hL.zl
  have lostk : ∀ m, L.forced ≤ m → m < z → m ≠ L.forced + lost := fun m m0 m1 he => by
    have := (hL.k m m0 m1).2
    rw [show (m - L.forced).toNat = lost by omega, hk lost hl] at this
    simp at this
  have ht : t1 = if lost < needN a.length then [] else [(l1, a)] := by
    have hwe := hL.w
    match t1, hwe, hzl with
    | [], hwe, hzl =>
      split
      · rfl
      · rename_i hq
        rcases hL.n with hn | ⟨x, t, hn, m, m0, m1, m2⟩
        · rw [hn] at hwe; cases hwe
        · rw [hn] at hwe
          injection hwe with hx _
          rw [← hx] at m1
          have hz : z = L.forced := by have : szs [] = 0 := rfl; omega
          have m1' : m < z + needN a.length := m1
          refine absurd ⟨by omega, ?_⟩ m2
          rw [hk _ (by omega)]
          exact decide_eq_true (by omega)
    | [x], hwe, hzl =>
      injection hwe with hx _
      subst hx
      have hz : z = L.forced + (needN a.length + 0) := hzl
      split
      · rename_i hq
        exact absurd rfl (lostk (L.forced + lost) (by omega) (by omega))
      · rfl
    | [x, y], hwe, hzl =>
      injection hwe with hx hwe
      injection hwe with hy _
      subst hx hy
      have hz : z = L.forced + (needN a.length + (needN b.length + 0)) := hzl
      exact absurd rfl (lostk (L.forced + lost) (by omega) (by omega))
    | x :: y :: v :: t, hwe, _ => simp at hwe
  subst ht
  exact ⟨L', M', e, li, k1, k2, k4, k5, by have := hL.z1; omega⟩
theorem keep_C {w W : World} {e base : Nat} {S : Nat → Prop} {A : Option Addr} {c : Nat} {l : List Bool} (h : Kd.bool.R e w base (fun _ => True) (.slice A l.length c) l) (hk : Kept w W S) (hS : ∀ k, S k → k < base) : Kd.C Kd.bool W A l.length l := by
  have h2 : Kd.bool.R e W base (fun _ => True) (.slice A l.length c) l := Kd.R_mono (Kd.R_step (Kd.R_bound h) (fun k hq hlt => hk.block k hlt (fun hs => by have := hS k hs; have := hq.2.1; omega))) (fun _ hq => hq.1)
  obtain ⟨A', c', e', _, hC⟩ := Kd.R_reads h2
  injection e' with e1 e2 e3
  subst e1
  exact hC
theorem row_S {w W : World} {e base : Nat} {S : Nat → Prop} {v : Value} {l : List ByteArray} (h : Kd.string.R e w base (fun _ => True) v l) (hk : Kept w W S) (hS : ∀ k, S k → k < base) : Kd.string.R e W base (fun _ => True) v l :=
  Kd.R_mono (Kd.R_step (Kd.R_bound h) (fun k hq hlt => hk.block k hlt (fun hs => by have := hS k hs; have := hq.2.1; omega))) (fun _ hq => hq.1)
theorem infoTB : (Try.prog.info? 4).map (fun i => (i.zero, i.size, i.bytes)) = some (some (.bool false), 1, 1) := by kernel_rfl
theorem need_n (n : Nat) (h : n ≤ 100000) (w : World) : Calls Try.prog 34 #[.int .i64 (n : Int)] w fun e w' => e = .returned (.int .i64 ((needN n : Nat) : Int)) ∧ Below w.heap.size w w' := by
  rw [← need_N]
  exact need_r n (by omega) (by omega) w
theorem need_2000 {n : Nat} (h : n ≤ 2000) : needN n ≤ 5 := by unfold needN; omega
def keepL (lost j : Nat) : List Bool := (List.range j).map fun k => decide (k ≠ lost)
theorem keepL_succ (lost j : Nat) : keepL lost (j + 1) = keepL lost j ++ [decide (j ≠ lost)] := by
  unfold keepL
  rw [List.range_succ, List.map_append]; rfl
theorem keepL_len (lost j : Nat) : (keepL lost j).length = j := by unfold keepL; simp
theorem keepL_at (lost j k : Nat) (h : k < j) : (keepL lost j).getD k false = decide (k ≠ lost) := by
  unfold keepL
  rw [List.getD_eq_getElem?_getD, List.getElem?_map, List.getElem?_range h]
  rfl
theorem wrap_succ {j m : Nat} (h : j < m) (hm : m ≤ 1000) : wrap64 ((j : Int) + 1) = ((j + 1 : Nat) : Int) := by unfold wrap64; omega
theorem bne_dec (j lost : Nat) : ((j : Int) != (lost : Int)) = decide (j ≠ lost) := by
  by_cases h : j = lost
  · subst h; simp
  · rw [decide_eq_true h]; simp; omega
/-- The power goes and comes, a waiting sector is lost. -/
theorem lost_st {w0 w : World} {g : Nat} {S : Nat → Prop} {M : DA} {N c : Nat} {L : LA} {es : List (Int × List Int)} {l1 l2 : Int} {a b : List Int} {tear : Int} (h : LI N c L M es [(l1, a), (l2, b)]) (hc : c ≤ 999999) (lost : Nat) (hl : lost < needN a.length + needN b.length) (hD : St w0 w g S (M.on (keepL lost (needN a.length + needN b.length)) tear)) :
    ∃ M2, St w0 w g S M2 ∧ DY M2 ∧ M2.wait.length = 0 ∧ ∃ L' M', opn M2 L.fr (L.ring + 2) = ⟨some L', 0, M'⟩ ∧ LI N (c + 1) L' M' (es ++ if lost < needN a.length then [] else [(l1, a)]) [] ∧ L'.life = L.life + 1 ∧ L'.start = L.start ∧ L'.fr = L.fr ∧ L'.ring = L.ring ∧ L'.next ≤ L.next :=
  ⟨_, hD, on_DY _ _ h.C.Y, rfl, crash_lost h hc _ lost (fun k hk => keepL_at lost _ k hk) hl tear⟩
namespace WalTail
set_option maxRecDepth 100000 in
set_option maxHeartbeats 8000000 in
theorem law_n (A0 : Option Addr) (c0 : Nat) (a : List Int) (A1 : Option Addr) (c1 : Nat) (b : List Int) (A2 : Option Addr) (c2 : Nat) (c : List Int) (lo0 : Int) (torn : Bool) (w : World)
    (hca : a.length ≤ c0) (hCa : Kd.C (Kd.int .u8) w A0 a.length a) (hya : Byt a) (hcb : b.length ≤ c1) (hCb : Kd.C (Kd.int .u8) w A1 b.length b) (hyb : Byt b) (hcc : c.length ≤ c2) (hCc : Kd.C (Kd.int .u8) w A2 c.length c) (hyc : Byt c)
    (lo : Nat) (h1 : bits .and .i64 lo0 255 = (lo : Int)) (sa : a.length ≤ 2000) (sb : b.length ≤ 2000) (sc : c.length ≤ 2000) :
    Calls Try.prog 13 #[.slice A0 a.length c0, .slice A1 b.length c1, .slice A2 c.length c2, .int .i64 lo0, .bool torn] w fun e w' => e = .returned (.bool true) ∧ Below w.heap.size w w' := by
  obtain ⟨L0, M0', hO, li0, x1, x2, x3, x4, x5, _⟩ := new_LI 40 40 (by decide) (by decide) (by decide)
  have HA := Aside0.mk (And.intro hca (And.intro hCa (And.intro hya sa)))
  have HBB := Aside0.mk (And.intro hcb (And.intro hCb (And.intro hyb sb)))
  have HC := Aside0.mk (And.intro hcc (And.intro hCc (And.intro hyc sc)))
  obtain ⟨nb, hnb⟩ : ∃ n, n = needN b.length := ⟨_, rfl⟩
  obtain ⟨nc, hnc⟩ : ∃ n, n = needN c.length := ⟨_, rfl⟩
  obtain ⟨n, hn⟩ : ∃ n, n = nb + nc := ⟨_, rfl⟩
  have nb0 := needN_pos b.length
  have nb5 := need_2000 sb
  have nc5 := need_2000 sc
  rw [← hnb] at nb0 nb5
  rw [← hnc] at nc5
  have hn0 : 0 < n := by omega
  have hn10 : n ≤ 10 := by omega
  have ww1 : wrap64 ((nb : Int) + (nc : Int)) = (n : Int) := by unfold wrap64; omega
  have ww2 : Int.tmod (lo : Int) (n : Int) = ((lo % n : Nat) : Int) := (Int.tmod_eq_emod_of_nonneg (Int.natCast_nonneg _)).trans (Int.natCast_emod _ _).symm
  have hll : lo % n < n := Nat.mod_lt _ hn0
  generalize lo % n = lost at ww2 hll
  have HT := Aside0.mk (And.intro ww1 ww2)
  clear ww1 ww2
  have HN := Aside0.mk (And.intro hnb (And.intro hnc (And.intro hn (And.intro hn10 hll))))
  have ww3 : ((n : Int) == 0) = false := by rw [beq_eq_false_iff_ne]; omega
  have ww4 : (n == 0) = false := by rw [beq_eq_false_iff_ne]; omega
  have ww5 : ¬ n = 0 := by omega
  have ta : decide (2000 < a.length) = false := decide_eq_false (by omega)
  have tb : decide (2000 < b.length) = false := decide_eq_false (by omega)
  have tc : decide (2000 < c.length) = false := decide_eq_false (by omega)
  have ta2 : decide ((2000 : Int) < (a.length : Int)) = false := decide_eq_false (by omega)
  have tb2 : decide ((2000 : Int) < (b.length : Int)) = false := decide_eq_false (by omega)
  have tc2 : decide ((2000 : Int) < (c.length : Int)) = false := decide_eq_false (by omega)
  have hla := hCa.2.1
  have hlb := hCb.2.1
  have hlc := hCc.2.1
  have y0 : DY (DA.new (newN 40).toNat) := new_DY _
  have w0 : (DA.new (newN 40).toNat).wait.length = 0 := rfl
  rw [show ((40 : Nat) : Int) = 40 from rfl] at hO
  obtain ⟨M0, hM0⟩ : ∃ M, M = DA.new (newN 40).toNat := ⟨_, rfl⟩
  rw [← hM0] at hO y0 w0
  have H0 := Aside0.mk (And.intro hM0 (And.intro hO (And.intro li0 (And.intro y0 w0))))
  have HX := Aside0.mk (And.intro x2 (And.intro x3 (And.intro x4 (And.intro x5 x1))))
  clear hM0 hO li0 y0 w0 x1 x2 x3 x4 x5 hca hCa hya hcb hCb hyb hcc hCc hyc sa sb sc hn hnb hnc nb0 nb5 nc5 hn0 hll hn10
  go_enter Try.func13, Try.ntmps13
  go_wp2_with fail
  refine (head_ok _).mono ?_
  rintro e w1 ⟨rfl, hb⟩
  have HB := Aside0.mk hb
  clear hb
  go_wp2_with fail
  refine (st_new (w0 := w) _ _ HB.out).mono ?_
  rintro e w2 ⟨g, S, rfl, hi, hb, hs⟩
  rw [← H0.out.1] at hi
  have HI := Aside0.mk hi
  clear hi HB hb hs
  go_wp2_with fail
  refine (wl_open HI.out H0.out.2.2.2.1 (by rw [H0.out.2.2.2.2]; decide) (by decide) (by decide) H0.out.2.1 H0.out.2.2.1).mono ?_
  rintro e w3 ⟨p, S3, rfl, hl, _, _, _⟩
  have HL := Aside0.mk hl
  clear hl HI H0
  go_wp2_with fail
  refine (wl_append HL.out (by decide) A0 c0 a (fun W' hk => Kd.C_below HA.out.2.1 (HL.out.args hk)) HA.out.1 HA.out.2.2.1 (by have := HA.out.2.2.2; omega) (by have := need_2000 HA.out.2.2.2; have := HX.out; unfold LA.free; omega)).mono ?_
  rintro e w4 ⟨rfl, S4, L1, M1, hl, hf, _, _⟩
  have HL1 := Aside0.mk hl
  have HX1 := Aside0.mk hf
  clear hl hf HL
  go_wp2_with fail
  refine (wl_force HL1.out (by decide)).mono ?_
  rintro e w5 ⟨rfl, L2, M2, hl, hf, _⟩
  have HL2 := Aside0.mk hl
  have HX2 := Aside0.mk (show L2.fr = 0 ∧ L2.ring = 38 ∧ L2.start = 0 ∧ L2.next ≤ 5 ∧ L2.life = 1 from by
    have q1 := HX1.out; have q2 := HX.out; have q3 := need_2000 HA.out.2.2.2
    refine ⟨?_, ?_, ?_, ?_, ?_⟩ <;> omega)
  clear hl hf HL1 HX1 HX
  go_wp2_with fail
  refine (wl_append HL2.out (by decide) A1 c1 b (fun W' hk => Kd.C_below HBB.out.2.1 (HL2.out.args hk)) HBB.out.1 HBB.out.2.2.1 (by have := HBB.out.2.2.2; omega) (by have := need_2000 HBB.out.2.2.2; have := HX2.out; unfold LA.free; omega)).mono ?_
  rintro e w6 ⟨rfl, S6, L3, M3, hl, hf, _, _⟩
  have HL3 := Aside0.mk hl
  have HX3 := Aside0.mk (show L3.fr = 0 ∧ L3.ring = 38 ∧ L3.start = 0 ∧ L3.next ≤ 10 ∧ L3.life = 1 from by
    have q1 := hf; have q2 := HX2.out; have q3 := need_2000 HBB.out.2.2.2
    refine ⟨?_, ?_, ?_, ?_, ?_⟩ <;> omega)
  clear hl hf HL2
  go_wp2_with fail
  refine (wl_append HL3.out (by decide) A2 c2 c (fun W' hk => Kd.C_below HC.out.2.1 (HL3.out.args hk)) HC.out.1 HC.out.2.2.1 (by have := HC.out.2.2.2; omega) (by have := need_2000 HC.out.2.2.2; have := HX3.out; unfold LA.free; omega)).mono ?_
  rintro e w7 ⟨rfl, S7, L4, M4, hl, hf, _, _⟩
  have HL4 := Aside0.mk (show Wl w w7 p g S7 40 (1 + 1 + 1 + 1) L4 M4 [(L0.life, a)] [(L2.life, b), (L3.life, c)] from hl)
  have HX4 := Aside0.mk (show L4.fr = 0 ∧ L4.ring = 38 ∧ L4.start = 0 ∧ L4.life = 1 ∧ L4.next ≤ 15 from by
    have q1 := hf; have q2 := HX3.out; have q3 := need_2000 HC.out.2.2.2
    refine ⟨?_, ?_, ?_, ?_, ?_⟩ <;> omega)
  clear hl hf HL3 HX3 HX2
  go_wp2_with fail
  refine (need_n b.length (by have := HBB.out.2.2.2; omega) _).mono ?_
  rw [← HN.out.1]
  rintro e w8 ⟨rfl, hb⟩
  have HL5 := Aside0.mk (HL4.out.below hb)
  clear hb HL4
  go_wp2_with fail
  refine (need_n c.length (by have := HC.out.2.2.2; omega) _).mono ?_
  rw [← HN.out.2.1]
  rintro e w9 ⟨rfl, hb⟩
  have HL6 := Aside0.mk (HL5.out.below hb)
  clear hb HL5
  obtain ⟨ww1, ww2⟩ := HT.out
  obtain ⟨wb, hwb⟩ : ∃ x, x = w9 := ⟨_, rfl⟩
  subst hwb
  go_wp2
  simp only [ww1]
  clear ww1 ww2
  go_loopw [17, 18] (fun v i wx => ∃ j : Nat, j ≤ n ∧ i = .int .i64 j ∧ Aside0 (Kd.bool.R 4 wx wb.heap.size (fun _ => True) v (keepL lost j) ∧ Below wb.heap.size wb wx)) (fun _ i _ => n - (intOf i).toNat)
  case atStart => exact ⟨0, Nat.zero_le _, rfl, ⟨Kd.R_of_own (h1 := fun _ => rfl) (own_lit_of (enc := Value.bool) wb wb.heap.size 4 ([] : List Bool) (Nat.le_refl _) (by simp)) (fun _ _ => trivial), below_alloc (Below.refl _ _) _⟩⟩
  case round =>
    obtain ⟨j, hj, rfl, hR⟩ := hrel
    have HR2 := Aside0.mk hR.out.1
    have HB2 := Aside0.mk hR.out.2
    clear hR
    by_cases hlt : j < n
    · have HJ := Aside0.mk hlt
      have he : wrap64 ((j : Int) + 1) = ((j + 1 : Nat) : Int) := by have := HN.out.2.2.2.1; unfold wrap64; omega
      go_wp2_with (at_builtin; refine Kd.R_append Kd.bool (w0 := wb) wb.heap.size rfl (.tmp 87) (.tmp 91) 30 4 (.bool false) 1 rfl Try.underlying30 infoTB rfl (by decide) (by decide) _ (keepL lost j) ((j : Int) != (lost : Int)) [.bool ((j : Int) != (lost : Int))] (fun _ => True) (fun _ => False) rfl rfl rfl (fun _ h => h.elim) (fun _ _ => trivial) HR2.out HB2.out HB2.out.size (by rw [keepL_len]; have := HN.out.2.2.2.1; have := HJ.out; omega) ?_; intro v1 w1 hR hB _ _; have HR3 := Aside0.mk hR; have HB3 := Aside0.mk hB; clear hR hB HR2 HB2)
      go_roundw
      case rel => exact ⟨j + 1, HJ.out, congrArg (Value.int .i64) he, ⟨by have := HR3.out; rw [bne_dec, ← keepL_succ] at this; exact this, HB3.out⟩⟩
      case measure =>
        rw [he]
        exact (show n - (j + 1) < n - j from Nat.sub_lt_sub_left HJ.out (Nat.lt_succ_self j))
    · have hjn : j = n := Nat.le_antisymm hj (Nat.le_of_not_lt hlt)
      subst hjn
      clear hlt hj
      obtain ⟨kp, hkp⟩ : ∃ kp, kp = keepL lost j := ⟨_, rfl⟩
      have hr2 := HR2.out
      rw [← hkp] at hr2
      have HK := Aside0.mk (show kp.length ≤ 100 by rw [hkp, keepL_len]; have := HN.out.2.2.2.1; omega)
      have HKP := Aside0.mk (show kp = keepL lost (needN b.length + needN c.length) by rw [hkp, HN.out.2.2.1, HN.out.1, HN.out.2.1])
      have HLO := Aside0.mk (show lost < needN b.length + needN c.length by have h1 := HN.out.2.2.1; have h2 := HN.out.2.2.2.2; have h3 := HN.out.1; have h4 := HN.out.2.1; rw [← h3, ← h4, ← h1]; exact h2)
      obtain ⟨kA, kc, hkv, _, _⟩ := Kd.R_reads hr2
      subst hkv
      have HR3 := Aside0.mk hr2
      have HL7 := Aside0.mk (HL6.out.below HB2.out)
      have hSb := Aside0.mk (show ∀ k, S7 k → k < wb.heap.size from fun k hk => (HL6.out.G.D.lt k hk).2)
      clear hr2 hkp HR2 HB2 HL6
      cases torn
      all_goals
        go_wp2_with fail
        refine (st_on HL7.out.G.D kA kc kp (fun W' hk => keep_C HR3.out hk hSb.out) (by have := HK.out; omega) _ (by have := HL7.out.I.wait; omega)).mono ?_
        rintro e w10 ⟨rfl, hi, _⟩
        rw [HKP.out] at hi
        obtain ⟨M5, hD, hY, hw0, L6, M6, hO, li, k1, k2, k3, k4, k5⟩ := lost_st HL7.out.I (by decide) lost HLO.out hi
        rw [HX4.out.1, HX4.out.2.1] at hO
        have HI := Aside0.mk hD
        have HO := Aside0.mk (And.intro hO (And.intro li (And.intro hY hw0)))
        have HX5 := Aside0.mk (show L6.fr = 0 ∧ L6.ring = 38 ∧ L6.start = 0 ∧ L6.life = 2 ∧ L6.next ≤ 15 from ⟨k3.trans HX4.out.1, k4.trans HX4.out.2.1, k2.trans HX4.out.2.2.1, by rw [k1, HX4.out.2.2.2.1]; rfl, Int.le_trans k5 HX4.out.2.2.2.2⟩)
        clear hi hD hY hw0 hO li k1 k2 k3 k4 k5 HL7 HR3 hSb HX4
        go_wp2_with fail
        refine (wl_open HI.out HO.out.2.2.1 (by rw [HO.out.2.2.2]; decide) (by decide) (by decide) HO.out.1 HO.out.2.1).mono ?_
        rintro e w11 ⟨p2, S8, rfl, hl, _, _, _⟩
        have HL8 := Aside0.mk hl
        clear hl HI HO
        go_wp2_with fail
        refine (wl_found HL8.out (by decide)).mono ?_
        rintro e w12 ⟨v1, v2, rfl, hr1, hr2, hb⟩
        rw [numb_strs, List.append_nil] at hr1
        have HG := Aside0.mk hr1
        have HL9 := Aside0.mk (HL8.out.below hb)
        clear hr1 hr2 hb HL8
        have cvA := cv_all HA.out.2.1 HL9.out.G.D.B c0
        go_wp2_with fail
        refine (need_n b.length (by have := HBB.out.2.2.2; omega) _).mono ?_
        rw [← HN.out.1]
        rintro e w13 ⟨rfl, hb⟩
        have hal := below_alloc (Below.refl w12.heap.size w12) (.cells #[.string (strOfNums a)] 9)
        have HW := Aside0.mk (Kd.R_below (Kd.R_of_own (h1 := fun _ => rfl) (own_lit_of (enc := Value.string) w12 w12.heap.size 9 [strOfNums a] (Nat.le_refl _) (by simp)) (fun _ _ => trivial) : Kd.string.R 9 (w12.alloc (.cells #[.string (strOfNums a)] 9)) w12.heap.size (fun _ => True) (.slice (some ⟨w12.heap.size, 0, none⟩) 1 1) [strOfNums a]) hb)
        have HB13 := Aside0.mk (below_step hal hb)
        clear cvA hal hb
        by_cases hlt : lost < nb
        case' pos =>
          go_upto_region 32 with fail
          obtain ⟨gl, hgl⟩ : ∃ gl, gl = [strOfNums a] := ⟨_, rfl⟩
          obtain ⟨ES, hES⟩ : ∃ x, x = ([(L0.life, a)] ++ if lost < needN b.length then [] else [(L2.life, b)] : List (Int × List Int)) := ⟨_, rfl⟩
          have hst : strs ES = gl := by rw [hES, ← HN.out.1, if_pos hlt, hgl]; rfl
          have hl1 : 0 < gl.length ∧ gl.length ≤ 2 := by rw [hgl]; exact ⟨Nat.zero_lt_one, Nat.le_succ 1⟩
          have hW := HW.out
          rw [← hgl] at hW
          obtain ⟨w14, hw14⟩ : ∃ x, x = w13 := ⟨_, rfl⟩
          have HB14 := HB13
          rw [← hw14] at hW HB14 ⊢
          obtain ⟨v3, hv3⟩ : ∃ v, v = Value.slice (some ⟨w12.heap.size, 0, none⟩) 1 1 := ⟨_, rfl⟩
          rw [← hv3] at hW ⊢
          clear hgl hw14 hv3
        case' neg =>
          have cvB := cv_all HBB.out.2.1 (HL9.out.below HB13.out).G.D.B c1
          go_upto_region 32 with (at_builtin; refine Kd.R_append Kd.string (w0 := w12) w12.heap.size rfl (.tmp 119) (.tmp 122) 40 9 (.string ⟨#[]⟩) 16 rfl Try.underlying40 infoStr rfl (by decide) (by decide) _ [strOfNums a] (strOfNums b) [.string (strOfNums b)] (fun _ => True) (fun _ => False) rfl rfl rfl (fun _ h => h.elim) (fun _ _ => trivial) HW.out HB13.out HB13.out.size (by simp) ?_; intro v3 w14 hR hB _ _; have HR3 := Aside0.mk hR; have HB14 := Aside0.mk hB; clear hR hB)
          obtain ⟨gl, hgl⟩ : ∃ gl, gl = [strOfNums a] ++ [strOfNums b] := ⟨_, rfl⟩
          obtain ⟨ES, hES⟩ : ∃ x, x = ([(L0.life, a)] ++ if lost < needN b.length then [] else [(L2.life, b)] : List (Int × List Int)) := ⟨_, rfl⟩
          have hst : strs ES = gl := by rw [hES, ← HN.out.1, if_neg hlt, hgl]; rfl
          have hl1 : 0 < gl.length ∧ gl.length ≤ 2 := by rw [hgl]; exact ⟨Nat.zero_lt_succ 1, Nat.le_refl 2⟩
          have hW := HR3.out
          rw [← hgl] at hW
          clear hgl HR3 cvB
        all_goals
          have hG := HG.out
          have hL := HL9.out
          rw [← hES] at hG hL
          rw [hst] at hG
          have HGL := Aside0.mk (And.intro hl1 hst)
          have hG14 := Kd.R_below hG HB14.out
          obtain ⟨k1, q1, hv1, _⟩ := Kd.R_form hG14 hl1.1
          obtain ⟨k2, q2, hv2, _⟩ := Kd.R_form hW hl1.1
          subst hv1 hv2
          have HG3 := Aside0.mk hG14
          have HW3 := Aside0.mk hW
          have HL11 := Aside0.mk (hL.below HB14.out)
          have hgi : (gl.length : Int) ≤ 2 := by omega
          clear hES hst hl1 hG hG14 hW hL HG HL9 HW HB13 HB14 hlt
          have hn1 := HX5.out.2.2.2.1
          go_wp2_with fail
          refine (life_l HL11.out.G).mono ?_
          rw [hn1]
          rintro e w' ⟨rfl, hq⟩
          have hq2 := hq.symm
          clear hq hn1
          subst hq2
          go_wp2
          go_loopw [136] (fun i wr => ∃ j : Nat, j ≤ gl.length ∧ i = .int .i64 j ∧ Aside0 (Below w14.heap.size w14 wr)) (fun i _ => gl.length - (intOf i).toNat)
          case atStart => exact ⟨0, Nat.zero_le _, rfl, ⟨Below.refl _ _⟩⟩
          case round =>
            obtain ⟨j, hj, rfl, hR⟩ := hrel
            by_cases hlt : j < gl.length
            · have r1 := (Kd.R_celln (enc := Value.string) (h1 := fun _ => rfl) ByteArray.empty (Kd.R_below HG3.out hR.out) (j : Int) (by omega) (by omega)).1
              have r2 := (Kd.R_celln (enc := Value.string) (h1 := fun _ => rfl) ByteArray.empty (Kd.R_below HW3.out hR.out) (j : Int) (by omega) (by omega)).1
              rw [Int.toNat_natCast] at r1 r2
              generalize rdOf ByteArray.empty gl (j : Int) = y at r1 r2
              have hji : (j : Int) < (gl.length : Int) := by omega
              go_upto_region 37 with fail
              go_quiet (fail)
              have HBQ := Aside0.mk (below_step hR.out (below_drewN wr nq))
              generalize wr.drewN nq = wq at HBQ ⊢
              clear r1 r2
              go_wp2
              go_roundw
              case rel => exact ⟨j + 1, hlt, by go_num, ⟨HBQ.out⟩⟩
              case measure =>
                rw [show (j : Int) + 1 = ((j + 1 : Nat) : Int) from rfl]
                exact (show gl.length - (j + 1) < gl.length - j from Nat.sub_lt_sub_left hlt (Nat.lt_succ_self j))
            · have hjn : j = gl.length := Nat.le_antisymm hj (Nat.le_of_not_lt hlt)
              subst hjn
              have HL12 := Aside0.mk (HL11.out.below hR.out)
              clear hlt hj hR HL11
              have hcv := fun (w : World) (C : Array Value) (n c : Nat) => Lib.run_convert_bytes_const (P := Try.prog) w 22 5 C n c Try.underlying22 Try.underlying5
              go_wp2_with fail
              refine (wl_append (HL12.out.below (below_alloc (Below.refl _ _) _)) (by decide) _ 1 [120] (fun W' hk => lit_C (enc := Value.int .u8) 0 [120] (lit_l HL12.out.G hk) rfl (by decide)) (by decide) (by intro x hx; simp at hx; omega) (by decide) (by have h1 := HX5.out; have h2 : needN ([120] : List Int).length = 1 := rfl; unfold LA.free; rw [h2]; omega)).mono ?_
              rintro e w15 ⟨rfl, S15, L7, M7, hl, hf, _, _⟩
              have hst := strs_app ES ([] ++ [(L6.life, [120])])
              rw [HGL.out.2] at hst
              obtain ⟨L8, M8, hO, li8, k1, k2, k3, k4, k5, _⟩ := hl.I.reopen (by decide)
              rw [hf.2.2.2.2.1.trans HX5.out.1, hf.2.2.2.2.2.trans HX5.out.2.1] at hO
              have HO := Aside0.mk (And.intro hO (And.intro li8 (And.intro hl.I.C.Y (show M7.wait.length < 900000 by have := hl.I.wait; omega))))
              have HL13 := Aside0.mk hl
              have HX8 := Aside0.mk (show L8.life = 3 by rw [k1, hf.2.1, HX5.out.2.2.2.1]; rfl)
              obtain ⟨ws8, hws8⟩ : ∃ x, x = ([] ++ [(L6.life, [120])] : List (Int × List Int)) := ⟨_, rfl⟩
              have hs8 : strs ws8 = [⟨#[120]⟩] := by rw [hws8]; show [strOfNums [120]] = _; rw [show strOfNums [120] = ⟨#[120]⟩ by decide +kernel]
              rw [← hws8] at hst HO
              rw [hs8] at hst
              have HST := Aside0.mk hst
              clear hl hf hst hO li8 k1 k2 k3 k4 k5 hws8 hs8 HL12 hcv
              go_wp2_with fail
              refine (wl_open HL13.out.G.D HO.out.2.2.1 HO.out.2.2.2 (by decide) (by decide) HO.out.1 HO.out.2.1).mono ?_
              rintro e w16 ⟨p3, S16, rfl, hl, _, _, _⟩
              have HL14 := Aside0.mk hl
              clear hl HL13 HO
              go_wp2_with fail
              refine (wl_found HL14.out (by decide)).mono ?_
              rintro e w17 ⟨v5, v6, rfl, hr1, hr2, hb⟩
              rw [numb_strs, List.append_nil, HST.out] at hr1
              obtain ⟨k5, q5, hv5, _⟩ := Kd.R_form hr1 (by rw [List.length_append]; exact Nat.succ_pos _)
              have hc5 := (Kd.R_celln (enc := Value.string) (h1 := fun _ => rfl) ByteArray.empty (hv5 ▸ hr1) (gl.length : Int) (Int.natCast_nonneg _) (by rw [List.length_append]; exact Int.ofNat_lt.2 (Nat.lt_succ_self _))).1
              rw [Int.toNat_natCast] at hc5
              have hrd : rdOf ByteArray.empty (gl ++ [(⟨#[120]⟩ : ByteArray)]) (gl.length : Int) = ⟨#[120]⟩ := by
                unfold rdOf
                rw [Int.toNat_natCast, List.getD_eq_getElem?_getD, List.getElem?_append_right (Nat.le_refl _), Nat.sub_self]
                rfl
              rw [hrd] at hc5
              rw [List.length_append, List.length_cons, List.length_nil, Nat.zero_add] at hv5
              subst hv5
              have HL15 := Aside0.mk (HL14.out.below hb)
              have hn1 := HX8.out
              clear hr1 hr2 hb hrd HL14 HX8
              go_wp2_with fail
              refine (life_l HL15.out.G).mono ?_
              rw [hn1]
              rintro e w' ⟨rfl, hq⟩
              have hq2 := hq.symm
              clear hq hn1
              subst hq2
              have HBE := Aside0.mk HL15.out.G.D.B
              go_wp2
              go_ret
              exact ⟨by simp, HBE.out⟩
set_option maxRecDepth 100000 in
set_option maxHeartbeats 4000000 in
theorem law_ok (A0 : Option Addr) (c0 : Nat) (a : List Int) (A1 : Option Addr) (c1 : Nat) (b : List Int) (A2 : Option Addr) (c2 : Nat) (c : List Int) (lost : Int) (torn : Bool) (w : World)
    (hca : a.length ≤ c0) (hCa : Kd.C (Kd.int .u8) w A0 a.length a) (hwa : ∀ x ∈ a, (Lit.int .u8 x).wf = true) (hcb : b.length ≤ c1) (hCb : Kd.C (Kd.int .u8) w A1 b.length b) (hwb : ∀ x ∈ b, (Lit.int .u8 x).wf = true) (hcc : c.length ≤ c2) (hCc : Kd.C (Kd.int .u8) w A2 c.length c) (hwc : ∀ x ∈ c, (Lit.int .u8 x).wf = true)
    (ho : (Lit.int .i64 lost).wf = true) :
    Calls Try.prog 13 #[.slice A0 a.length c0, .slice A1 b.length c1, .slice A2 c.length c2, .int .i64 lost, .bool torn] w fun e w' => e = .returned (.bool true) ∧ Below w.heap.size w w' := by
  by_cases hs : a.length ≤ 2000 ∧ b.length ≤ 2000 ∧ c.length ≤ 2000
  · have e1 := Bits.and_255 lost
    exact law_n A0 c0 a A1 c1 b A2 c2 c lost torn w hca hCa (Byt.of_wf hwa) hcb hCb (Byt.of_wf hwb) hcc hCc (Byt.of_wf hwc) ((lost % 256).toNat) (by rw [e1]; omega) hs.1 hs.2.1 hs.2.2
  · have hA := hCa.2.1
    have hB := hCb.2.1
    have hC := hCc.2.1
    have t : ∀ n : Nat, (decide (2000 < n) = false ∧ decide ((2000 : Int) < (n : Int)) = false) ∨ (decide (2000 < n) = true ∧ decide ((2000 : Int) < (n : Int)) = true) := fun n => by
      rcases Nat.lt_or_ge 2000 n with h | h
      · exact .inr ⟨decide_eq_true h, decide_eq_true (by omega)⟩
      · exact .inl ⟨decide_eq_false (by omega), decide_eq_false (by omega)⟩
    have hd : (decide (2000 < a.length) = true ∧ decide ((2000 : Int) < (a.length : Int)) = true) ∨ ((decide (2000 < a.length) = false ∧ decide ((2000 : Int) < (a.length : Int)) = false) ∧ decide (2000 < b.length) = true ∧ decide ((2000 : Int) < (b.length : Int)) = true) ∨
        ((decide (2000 < a.length) = false ∧ decide ((2000 : Int) < (a.length : Int)) = false) ∧ (decide (2000 < b.length) = false ∧ decide ((2000 : Int) < (b.length : Int)) = false) ∧ decide (2000 < c.length) = true ∧ decide ((2000 : Int) < (c.length : Int)) = true) := by
      rcases t a.length with p | p
      · rcases t b.length with q | q
        · rcases t c.length with r | r
          · exact absurd ⟨by have := of_decide_eq_false p.1; omega, by have := of_decide_eq_false q.1; omega, by have := of_decide_eq_false r.1; omega⟩ hs
          · exact .inr (.inr ⟨p, q, r⟩)
        · exact .inr (.inl ⟨p, q⟩)
      · exact .inl p
    clear hs t hCa hCb hCc hwa hwb hwc hca hcb hcc ho
    rcases hd with ⟨t1, u1⟩ | ⟨⟨t1, u1⟩, t2, u2⟩ | ⟨⟨t1, u1⟩, ⟨t2, u2⟩, t3, u3⟩
    all_goals
      go_enter Try.func13, Try.ntmps13
      go_wp2_with fail
      refine (head_ok _).mono ?_
      rintro e w0 ⟨rfl, hb⟩
      have HB := Aside0.mk hb
      clear hb
      go_wp2
      go_ret
      exact ⟨rfl, HB.out⟩
end WalTail
end Go.Proofs.Ytihmfccpgahmaaa.Wal
