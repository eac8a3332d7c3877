/- The law WalBehind, walked: true, for whatever bytes and numbers. -/
import Derived.Test.YtihmfccpgahmaaaWalCr
import Derived.Test.YtihmfccpgahmaaaBits
namespace Go.Proofs.Ytihmfccpgahmaaa.Wal
open Go Go.RowKit
open Go.Proofs.YtihmfccpgahmaaaW.PrintWords hiding Kept Kept.refl
open Go.Proofs.YtihmfccpgahmaaaW.PrintMore Go.Proofs.YtihmfccpgahmaaaW.PrintLast Go.Proofs.Ytihmfccpgahmaaa.Dk Go.Proofs.Ytihmfccpgahmaaa.Q Go.Proofs.Ytihmfccpgahmaaa.Str Go.Proofs.Ytihmfccpgahmaaa.Leb
set_option linter.unusedVariables false
set_option linter.unusedSimpArgs false
theorem szs_nil {t : List (Int × List Int)} (h : szs t = 0) : t = [] := by
  cases t with
  | nil => rfl
  | cons x t =>
    have hp := needN_pos x.2.length
    have hs : ∀ t : List (Int × List Int), 0 ≤ szs t := fun t => by
      induction t with
      | nil => exact Int.le_refl _
      | cons y t ih => show 0 ≤ needN y.2.length + szs t; omega
    have := hs t
    have h2 : (needN x.2.length : Int) + szs t = 0 := h
    omega
/-- The first waiting sector is lost: all that waits is. -/
theorem crash_first {M : DA} {N c : Nat} {L : LA} {es ws : List (Int × List Int)} {Rs : Int → Part} {nx : Int} (h : CI N c L M es ws Rs nx) (hc : c ≤ 999999) (keep : List Bool) (tear : Int) (hk : keep.getD 0 false = false) :
    ∃ L' M', opn (M.on keep tear) L.fr (L.ring + 2) = ⟨some L', 0, M'⟩ ∧ LI N (c + 1) L' M' es [] ∧ L'.life = L.life + 1 ∧ L'.start = L.start ∧ L'.next = L.forced ∧ L'.fr = L.fr ∧ L'.ring = L.ring := by
  obtain ⟨t1, t2, z, L', M', hL, e, li, a1, a2, a3, a4, a5, _⟩ := h.crash hc keep tear
  have hz : z = L.forced := by
    have hz0 := hL.z0
    rcases Int.lt_or_eq_of_le hz0 with hlt | he
    · have := (hL.k L.forced (Int.le_refl _) hlt).2
      rw [show (L.forced - L.forced).toNat = 0 by omega, hk] at this
      cases this
    · exact he.symm
  have ht : t1 = [] := szs_nil (by have := hL.zl; omega)
  subst ht
  rw [List.append_nil] at li
  exact ⟨L', M', e, li, a1, a2, a3.trans hz, a4, a5⟩
theorem need_1000 {n : Nat} (h : n ≤ 1000) : needN n ≤ 3 := by unfold needN; omega
theorem infoTB : (Try.prog.info? 4).map (fun i => (i.zero, i.size, i.bytes)) = some (some (.bool false), 1, 1) := by kernel_rfl
theorem keep_C {w W : World} {e base : Nat} {S : Nat → Prop} {A : Option Addr} {c : Nat} {l : List Bool} (h : Kd.bool.R e w base (fun _ => True) (.slice A l.length c) l) (hk : Kept w W S) (hS : ∀ k, S k → k < base) : Kd.C Kd.bool W A l.length l := by
  have h2 : Kd.bool.R e W base (fun _ => True) (.slice A l.length c) l := Kd.R_mono (Kd.R_step (Kd.R_bound h) (fun k hq hlt => hk.block k hlt (fun hs => by have := hS k hs; have := hq.2.1; omega))) (fun _ hq => hq.1)
  obtain ⟨A', c', e', _, hC⟩ := Kd.R_reads h2
  injection e' with e1 e2 e3
  subst e1
  exact hC
namespace WalBehind
set_option maxRecDepth 100000 in
set_option maxHeartbeats 8000000 in
theorem law_n (A0 : Option Addr) (c0 : Nat) (a : List Int) (A1 : Option Addr) (c1 : Nat) (b : List Int) (A2 : Option Addr) (c2 : Nat) (c : List Int) (op0 : Int) (force : Bool) (w : World)
    (hca : a.length ≤ c0) (hCa : Kd.C (Kd.int .u8) w A0 a.length a) (hya : Byt a) (hcb : b.length ≤ c1) (hCb : Kd.C (Kd.int .u8) w A1 b.length b) (hyb : Byt b) (hcc : c.length ≤ c2) (hCc : Kd.C (Kd.int .u8) w A2 c.length c) (hyc : Byt c)
    (n : Nat) (h1 : bits .and .i64 op0 3 = (n : Int) - 1) (hn : n ≤ 4) (sa : a.length ≤ 1000) (sb : b.length ≤ 1000) (sc : c.length ≤ 1000) :
    Calls Try.prog 15 #[.slice A0 a.length c0, .slice A1 b.length c1, .slice A2 c.length c2, .int .i64 op0, .bool force] w fun e w' => e = .returned (.bool true) ∧ Below w.heap.size w w' := by
  obtain ⟨L0, M0', hO, li0, _, x2, x3, x4, x5, _⟩ := new_LI 40 40 (by decide) (by decide) (by decide)
  have HA := Aside0.mk (And.intro hca (And.intro hCa (And.intro hya sa)))
  have HBB := Aside0.mk (And.intro hcb (And.intro hCb (And.intro hyb sb)))
  have HC := Aside0.mk (And.intro hcc (And.intro hCc (And.intro hyc sc)))
  have HN := Aside0.mk hn
  have ww1 : wrap64 (1 + ((n : Int) - 1)) = (n : Int) := by unfold wrap64; omega
  have ta : decide (1000 < a.length) = false := decide_eq_false (by omega)
  have tb : decide (1000 < b.length) = false := decide_eq_false (by omega)
  have tc : decide (1000 < c.length) = false := decide_eq_false (by omega)
  have ta2 : decide ((1000 : Int) < (a.length : Int)) = false := decide_eq_false (by omega)
  have tb2 : decide ((1000 : Int) < (b.length : Int)) = false := decide_eq_false (by omega)
  have tc2 : decide ((1000 : Int) < (c.length : Int)) = false := decide_eq_false (by omega)
  have hla := hCa.2.1
  have hlb := hCb.2.1
  have hlc := hCc.2.1
  have y0 : DY (DA.new (newN 40).toNat) := new_DY _
  have w0 : (DA.new (newN 40).toNat).wait.length = 0 := rfl
  rw [show ((40 : Nat) : Int) = 40 from rfl] at hO
  obtain ⟨M0, hM0⟩ : ∃ M, M = DA.new (newN 40).toNat := ⟨_, rfl⟩
  rw [← hM0] at hO y0 w0
  have H0 := Aside0.mk (And.intro hM0 (And.intro hO (And.intro li0 (And.intro y0 w0))))
  have HX := Aside0.mk (And.intro x2 (And.intro x3 (And.intro x4 x5)))
  clear hM0 hO li0 y0 w0 x2 x3 x4 x5 hca hCa hya hcb hCb hyb hcc hCc hyc sa sb sc hn
  go_enter Try.func15, Try.ntmps15
  go_wp2_with fail
  refine (head_ok _).mono ?_
  rintro e w1 ⟨rfl, hb⟩
  have HB := Aside0.mk hb
  clear hb
  go_wp2_with fail
  refine (st_new (w0 := w) _ _ HB.out).mono ?_
  rintro e w2 ⟨g, S, rfl, hi, hb, hs⟩
  rw [← H0.out.1] at hi
  have HI := Aside0.mk hi
  clear hi HB hb hs
  go_wp2_with fail
  refine (wl_open HI.out H0.out.2.2.2.1 (by rw [H0.out.2.2.2.2]; decide) (by decide) (by decide) H0.out.2.1 H0.out.2.2.1).mono ?_
  rintro e w3 ⟨p, S3, rfl, hl, _, _, _⟩
  have HL := Aside0.mk hl
  clear hl HI
  go_wp2_with fail
  refine (wl_append HL.out (by decide) A0 c0 a (fun W' hk => Kd.C_below HA.out.2.1 (HL.out.args hk)) HA.out.1 HA.out.2.2.1 (by have := HA.out.2.2.2; omega) (by have := need_1000 HA.out.2.2.2; have := HX.out; unfold LA.free; omega)).mono ?_
  rintro e w4 ⟨rfl, S4, L1, M1, hl, hf, _, _⟩
  have HL1 := Aside0.mk hl
  have HX1 := Aside0.mk hf
  clear hl hf HL
  go_wp2_with fail
  refine (wl_append HL1.out (by decide) A1 c1 b (fun W' hk => Kd.C_below HBB.out.2.1 (HL1.out.args hk)) HBB.out.1 HBB.out.2.2.1 (by have := HBB.out.2.2.2; omega) (by have := need_1000 HA.out.2.2.2; have := need_1000 HBB.out.2.2.2; have := HX.out; have := HX1.out; unfold LA.free; omega)).mono ?_
  rintro e w5 ⟨rfl, S5, L2, M2, hl, hf, _, _⟩
  obtain ⟨f1, f2, f3, f4, f5, f6⟩ := HX1.out
  obtain ⟨g1, g2, g3, g4, g5, g6⟩ := hf
  obtain ⟨q1, q2, q3, q4⟩ := HX.out
  have HL2 := Aside0.mk hl
  have HX2 := Aside0.mk (show L2.fr = 0 ∧ L2.ring = 38 ∧ L2.start = 0 ∧ L2.forced = 0 from ⟨by omega, by omega, by omega, by
    have := HL1.out.I.C.fx
    have hq := H0.out.2.2.1.C.eW
    have hq2 : L0.forced = L0.next := hq
    omega⟩)
  clear hl f1 f2 f3 f4 f5 f6 g1 g2 g3 g4 g5 g6 q1 q2 q3 q4 HL1 HX1 HX H0
  obtain ⟨wb, hwb⟩ : ∃ x, x = w5 := ⟨_, rfl⟩
  subst hwb
  have HLB := Aside0.mk HL2.out.G.D.B.size
  go_wp2
  go_loopw [18, 19] (fun v i wx => ∃ j : Nat, j ≤ 10 ∧ i = .int .i64 j ∧ Aside0 (Kd.bool.R 4 wx wb.heap.size (fun _ => True) v (false :: List.replicate j true) ∧ Below wb.heap.size wb wx)) (fun _ i _ => 10 - (intOf i).toNat)
  case atStart => exact ⟨0, Nat.zero_le _, rfl, ⟨Kd.R_of_own (h1 := fun _ => rfl) (own_lit_of (enc := Value.bool) wb wb.heap.size 4 [false] (Nat.le_refl _) (by simp)) (fun _ _ => trivial), below_alloc (Below.refl _ _) _⟩⟩
  case round =>
    obtain ⟨j, hj, rfl, hR⟩ := hrel
    have HR2 := Aside0.mk hR.out.1
    have HB2 := Aside0.mk hR.out.2
    clear hR
    by_cases hlt : j < 10
    · have HJ := Aside0.mk hlt
      go_wp2_with (at_builtin; refine Kd.R_append Kd.bool (w0 := wb) wb.heap.size rfl (.tmp 70) (.tmp 71) 30 4 (.bool false) 1 rfl Try.underlying30 infoTB rfl (by decide) (by decide) _ (false :: List.replicate j true) true [.bool true] (fun _ => True) (fun _ => False) rfl rfl rfl (fun _ h => h.elim) (fun _ _ => trivial) HR2.out HB2.out HB2.out.size (by simp; omega) ?_; intro v1 w1 hR hB _ _; have HR3 := Aside0.mk hR; have HB3 := Aside0.mk hB; clear hR hB HR2 HB2)
      go_roundw
      case rel => exact ⟨j + 1, hlt, by go_num, ⟨by have := HR3.out; rw [List.cons_append, ← List.replicate_succ'] at this; exact this, HB3.out⟩⟩
      case measure => simp [intOf]; omega
    · obtain rfl : j = 10 := by omega
      clear hlt
      obtain ⟨kp, hkp⟩ : ∃ kp, kp = false :: List.replicate 10 true := ⟨_, rfl⟩
      have hr2 := HR2.out
      rw [← hkp] at hr2
      have HK := Aside0.mk (show kp.getD 0 false = false ∧ kp.length ≤ 100 by rw [hkp]; exact ⟨rfl, by decide⟩)
      obtain ⟨kA, kc, hkv, _, _⟩ := Kd.R_reads hr2
      subst hkv
      have HR3 := Aside0.mk hr2
      have HL3 := Aside0.mk (HL2.out.below HB2.out)
      have hSb := Aside0.mk (show ∀ k, S5 k → k < wb.heap.size from fun k hk => (HL2.out.G.D.lt k hk).2)
      clear hr2 hkp HR2 HB2 HL2
      go_wp2_with fail
      refine (st_on HL3.out.G.D kA kc kp (fun W' hk => keep_C HR3.out hk hSb.out) (by have := HK.out.2; omega) (-1) (by have := HL3.out.I.wait; omega)).mono ?_
      rintro e w6 ⟨rfl, hi, _⟩
      have HI := Aside0.mk hi
      obtain ⟨L3, M3, hO, li3, k1, k2, k3, k4, k5⟩ := crash_first HL3.out.I.C (by decide) kp (-1) HK.out.1
      rw [HX2.out.1, HX2.out.2.1] at hO
      have HO := Aside0.mk (And.intro hO (And.intro li3 (And.intro (show DY (M2.on kp (-1)) from on_DY _ _ HL3.out.I.C.Y) (show (M2.on kp (-1)).wait.length = 0 from rfl))))
      have HX3 := Aside0.mk (show L3.fr = 0 ∧ L3.ring = 38 ∧ L3.start = 0 ∧ L3.next = 0 from ⟨k4.trans HX2.out.1, k5.trans HX2.out.2.1, k2.trans HX2.out.2.2.1, k3.trans HX2.out.2.2.2⟩)
      clear hi hO li3 k1 k2 k3 k4 k5 HL3 HR3 hSb HX2
      generalize M2.on kp (-1) = M2' at HI HO
      go_wp2_with fail
      refine (wl_open HI.out HO.out.2.2.1 (by rw [HO.out.2.2.2]; decide) (by decide) (by decide) HO.out.1 HO.out.2.1).mono ?_
      rintro e w7 ⟨p2, S7, rfl, hl, _, _, _⟩
      have HL := Aside0.mk hl
      clear hl HI HO
      have hn0 := HX3.out.2.2.2
      go_wp2_with fail
      refine (next_l HL.out.G).mono ?_
      rw [hn0]
      rintro e w' ⟨rfl, hq⟩
      have hq2 := hq.symm
      clear hq hn0
      subst hq2
      go_wp2_with fail
      refine (wl_append HL.out (by decide) A2 c2 c (fun W' hk => Kd.C_below HC.out.2.1 (HL.out.args hk)) HC.out.1 HC.out.2.2.1 (by have := HC.out.2.2.2; omega) (by have := need_1000 HC.out.2.2.2; have := HX3.out; unfold LA.free; omega)).mono ?_
      rintro e w8 ⟨rfl, S8, L4, M4, hl, hf, _, _⟩
      have HL4 := Aside0.mk hl
      obtain ⟨f1, f2, f3, f4, f5, f6⟩ := hf
      obtain ⟨q1, q2, q3, q4⟩ := HX3.out
      have HX4 := Aside0.mk (show L4.fr = 0 ∧ L4.ring = 38 from ⟨by omega, by omega⟩)
      clear hl f1 f2 f3 f4 f5 f6 q1 q2 q3 q4 HX3 HL
      cases force
      · have HL5 := Aside0.mk (HL4.out)
        obtain ⟨w9, hw9⟩ : ∃ x, x = w8 := ⟨_, rfl⟩
        subst hw9
        obtain ⟨W5, hW5⟩ : ∃ x, x = [] ++ [(L3.life, c)] := ⟨_, rfl⟩
        obtain ⟨E5, hE5⟩ : ∃ x : List (Int × List Int), x = [] := ⟨_, rfl⟩
        obtain ⟨L5, hL5⟩ : ∃ x, x = L4 := ⟨_, rfl⟩
        rw [← hW5, ← hL5] at HL5
        rw [← hE5] at HL5
        rw [← hL5] at HX4
        have HX5 := HX4
        clear HL4 HX4 hW5 hE5 hL5
        go_wp2_with fail
        refine (next_l HL5.out.G).mono ?_
        rintro e w' ⟨rfl, hq⟩
        have hq2 := hq.symm
        clear hq
        subst hq2
        go_wp2_with fail
        refine (wl_cut HL5.out (by decide) (a := E5 ++ W5) (b := []) (lsn := L5.next) (List.append_nil _).symm (HL5.out.I.ents (by decide)) rfl).mono ?_
        rintro e w10 ⟨rfl, S10, L6, M6, hl, hf, _, _⟩
        have HR := Aside0.mk (show ∃ S L M, St w w10 g S M ∧ LI 40 (7 + 0) L M [] [] ∧ L.fr = 0 ∧ L.ring = 38 ∧ L.start = L5.next ∧ L.next = L5.next from ⟨_, _, _, hl.G.D, hl.I.mono (by decide), hf.2.2.2.1.trans HX5.out.1, hf.2.2.2.2.trans HX5.out.2, hf.2.2.1, hf.1⟩)
        clear hl hf HL5 HX5
        generalize L5.next = nx at HR ⊢
        go_wp2
        go_loopw [12, 13, 23] (fun v12 v13 i wr => ∃ k : Nat, k ≤ n ∧ i = .int .i64 k ∧ Aside0 (∃ S L M, St w wr g S M ∧ LI 40 (7 + k) L M [] [] ∧ L.fr = 0 ∧ L.ring = 38 ∧ L.start = nx ∧ L.next = nx)) (fun _ _ i _ => n - (intOf i).toNat)
        case atStart => exact ⟨0, Nat.zero_le _, rfl, HR⟩
        case round =>
          obtain ⟨k, hk, rfl, hR⟩ := hrel
          clear HR
          obtain ⟨T, L, M, hD, hI, e1, e2, e3, e4⟩ := hR.out
          have HD := Aside0.mk hD
          by_cases hlt : k < n
          · have HLT := Aside0.mk hlt
            have HWT := Aside0.mk (show M.wait.length ≤ 1000 by have := hI.wait; have := HN.out; omega)
            obtain ⟨L7, M7, hO, li7, k1, k2, k3, k4, k5⟩ := crash_first hI.C (by have := HN.out; omega) [] (-1) rfl
            have hff : L.forced = L.next := hI.C.eW
            rw [e1, e2] at hO
            have HO := Aside0.mk (And.intro hO (And.intro li7 (And.intro (show DY (M.on [] (-1)) from on_DY _ _ hI.C.Y) (show (M.on [] (-1)).wait.length = 0 from rfl))))
            have HX7 := Aside0.mk (show L7.fr = 0 ∧ L7.ring = 38 ∧ L7.start = nx ∧ L7.next = nx from ⟨k4.trans e1, k5.trans e2, k2.trans e3, k3.trans (hff.trans e4)⟩)
            clear hR hD hI e1 e2 e3 e4 hO li7 k1 k2 k3 k4 k5 hff
            go_wp2_with fail
            clear hlt
            refine (st_on HD.out none 0 [] (fun W' hk => Kd.C_nil _ _) (by decide) (-1) (by have := HWT.out; omega)).mono ?_
            rintro e w11 ⟨rfl, hi, _⟩
            have HI := Aside0.mk hi
            clear hi HD
            generalize M.on [] (-1) = M' at HI HO
            go_wp2_with fail
            refine (wl_open HI.out HO.out.2.2.1 (by rw [HO.out.2.2.2]; decide) (by decide) (by decide) HO.out.1 HO.out.2.1).mono ?_
            rintro e w12 ⟨p3, S12, rfl, hl, _, _, _⟩
            have HL := Aside0.mk hl
            clear hl HI HO
            have hn1 := HX7.out.2.2.1
            have hn2 := HX7.out.2.2.2
            go_wp2_with fail
            refine (start_l HL.out.G).mono ?_
            rw [hn1]
            rintro e w' ⟨rfl, hq⟩
            have hq2 := hq.symm
            clear hq hn1
            subst hq2
            go_wp2_with fail
            refine (next_l HL.out.G).mono ?_
            rw [hn2]
            rintro e w' ⟨rfl, hq⟩
            have hq2 := hq.symm
            clear hq hn2
            subst hq2
            go_wp2_with fail
            refine (wl_found HL.out (by have := HN.out; have := HLT.out; omega)).mono ?_
            rintro e w13 ⟨v3, v4, rfl, hr1, hr2, hb⟩
            have HL2 := Aside0.mk (HL.out.below hb)
            obtain ⟨A3, c3, hv3, _⟩ := Kd.R_reads hr1
            subst hv3
            clear hr1 hr2 hb HL
            simp only [List.append_nil, numb, List.map_nil, List.length_nil]
            have h1' := HLT.out
            have h2' := HN.out
            have he : wrap64 ((k : Int) + 1) = ((k + 1 : Nat) : Int) := by unfold wrap64; omega
            clear h1' h2'
            go_wp2
            go_roundw
            case rel => exact ⟨k + 1, HLT.out, congrArg (Value.int .i64) he, ⟨_, _, _, HL2.out.G.D, HL2.out.I, HX7.out.1, HX7.out.2.1, HX7.out.2.2.1, HX7.out.2.2.2⟩⟩
            case measure =>
              rw [he]
              exact (show n - (k + 1) < n - k from Nat.sub_lt_sub_left HLT.out (Nat.lt_succ_self k))
          · have hkn : k = n := Nat.le_antisymm hk (Nat.le_of_not_lt hlt)
            subst hkn
            have HB := Aside0.mk hD.B
            clear hlt hR hD hI e1 e2 e3 e4
            go_wp2
            go_ret
            exact ⟨rfl, HB.out⟩
      · go_wp2_with fail
        refine (wl_force HL4.out (by decide)).mono ?_
        rintro e w9 ⟨rfl, L5, M5, hl, hf, _⟩
        have HL5 := Aside0.mk hl
        have HX5 := Aside0.mk (show L5.fr = 0 ∧ L5.ring = 38 from ⟨hf.2.2.2.2.1.trans HX4.out.1, hf.2.2.2.2.2.trans HX4.out.2⟩)
        obtain ⟨E5, hE5⟩ : ∃ x, x = [] ++ ([] ++ [(L3.life, c)]) := ⟨_, rfl⟩
        obtain ⟨W5, hW5⟩ : ∃ x : List (Int × List Int), x = [] := ⟨_, rfl⟩
        rw [← hE5] at HL5
        rw [← hW5] at HL5
        clear hl hf HL4 HX4 hW5 hE5
        go_wp2_with fail
        refine (next_l HL5.out.G).mono ?_
        rintro e w' ⟨rfl, hq⟩
        have hq2 := hq.symm
        clear hq
        subst hq2
        go_wp2_with fail
        refine (wl_cut HL5.out (by decide) (a := E5 ++ W5) (b := []) (lsn := L5.next) (List.append_nil _).symm (HL5.out.I.ents (by decide)) rfl).mono ?_
        rintro e w10 ⟨rfl, S10, L6, M6, hl, hf, _, _⟩
        have HR := Aside0.mk (show ∃ S L M, St w w10 g S M ∧ LI 40 (7 + 0) L M [] [] ∧ L.fr = 0 ∧ L.ring = 38 ∧ L.start = L5.next ∧ L.next = L5.next from ⟨_, _, _, hl.G.D, hl.I.mono (by decide), hf.2.2.2.1.trans HX5.out.1, hf.2.2.2.2.trans HX5.out.2, hf.2.2.1, hf.1⟩)
        clear hl hf HL5 HX5
        generalize L5.next = nx at HR ⊢
        go_wp2
        go_loopw [12, 13, 23] (fun v12 v13 i wr => ∃ k : Nat, k ≤ n ∧ i = .int .i64 k ∧ Aside0 (∃ S L M, St w wr g S M ∧ LI 40 (7 + k) L M [] [] ∧ L.fr = 0 ∧ L.ring = 38 ∧ L.start = nx ∧ L.next = nx)) (fun _ _ i _ => n - (intOf i).toNat)
        case atStart => exact ⟨0, Nat.zero_le _, rfl, HR⟩
        case round =>
          obtain ⟨k, hk, rfl, hR⟩ := hrel
          clear HR
          obtain ⟨T, L, M, hD, hI, e1, e2, e3, e4⟩ := hR.out
          have HD := Aside0.mk hD
          by_cases hlt : k < n
          · have HLT := Aside0.mk hlt
            have HWT := Aside0.mk (show M.wait.length ≤ 1000 by have := hI.wait; have := HN.out; omega)
            obtain ⟨L7, M7, hO, li7, k1, k2, k3, k4, k5⟩ := crash_first hI.C (by have := HN.out; omega) [] (-1) rfl
            have hff : L.forced = L.next := hI.C.eW
            rw [e1, e2] at hO
            have HO := Aside0.mk (And.intro hO (And.intro li7 (And.intro (show DY (M.on [] (-1)) from on_DY _ _ hI.C.Y) (show (M.on [] (-1)).wait.length = 0 from rfl))))
            have HX7 := Aside0.mk (show L7.fr = 0 ∧ L7.ring = 38 ∧ L7.start = nx ∧ L7.next = nx from ⟨k4.trans e1, k5.trans e2, k2.trans e3, k3.trans (hff.trans e4)⟩)
            clear hR hD hI e1 e2 e3 e4 hO li7 k1 k2 k3 k4 k5 hff
            go_wp2_with fail
            clear hlt
            refine (st_on HD.out none 0 [] (fun W' hk => Kd.C_nil _ _) (by decide) (-1) (by have := HWT.out; omega)).mono ?_
            rintro e w11 ⟨rfl, hi, _⟩
            have HI := Aside0.mk hi
            clear hi HD
            generalize M.on [] (-1) = M' at HI HO
            go_wp2_with fail
            refine (wl_open HI.out HO.out.2.2.1 (by rw [HO.out.2.2.2]; decide) (by decide) (by decide) HO.out.1 HO.out.2.1).mono ?_
            rintro e w12 ⟨p3, S12, rfl, hl, _, _, _⟩
            have HL := Aside0.mk hl
            clear hl HI HO
            have hn1 := HX7.out.2.2.1
            have hn2 := HX7.out.2.2.2
            go_wp2_with fail
            refine (start_l HL.out.G).mono ?_
            rw [hn1]
            rintro e w' ⟨rfl, hq⟩
            have hq2 := hq.symm
            clear hq hn1
            subst hq2
            go_wp2_with fail
            refine (next_l HL.out.G).mono ?_
            rw [hn2]
            rintro e w' ⟨rfl, hq⟩
            have hq2 := hq.symm
            clear hq hn2
            subst hq2
            go_wp2_with fail
            refine (wl_found HL.out (by have := HN.out; have := HLT.out; omega)).mono ?_
            rintro e w13 ⟨v3, v4, rfl, hr1, hr2, hb⟩
            have HL2 := Aside0.mk (HL.out.below hb)
            obtain ⟨A3, c3, hv3, _⟩ := Kd.R_reads hr1
            subst hv3
            clear hr1 hr2 hb HL
            simp only [List.append_nil, numb, List.map_nil, List.length_nil]
            have h1' := HLT.out
            have h2' := HN.out
            have he : wrap64 ((k : Int) + 1) = ((k + 1 : Nat) : Int) := by unfold wrap64; omega
            clear h1' h2'
            go_wp2
            go_roundw
            case rel => exact ⟨k + 1, HLT.out, congrArg (Value.int .i64) he, ⟨_, _, _, HL2.out.G.D, HL2.out.I, HX7.out.1, HX7.out.2.1, HX7.out.2.2.1, HX7.out.2.2.2⟩⟩
            case measure =>
              rw [he]
              exact (show n - (k + 1) < n - k from Nat.sub_lt_sub_left HLT.out (Nat.lt_succ_self k))
          · have hkn : k = n := Nat.le_antisymm hk (Nat.le_of_not_lt hlt)
            subst hkn
            have HB := Aside0.mk hD.B
            clear hlt hR hD hI e1 e2 e3 e4
            go_wp2
            go_ret
            exact ⟨rfl, HB.out⟩
theorem law_ok (A0 : Option Addr) (c0 : Nat) (a : List Int) (A1 : Option Addr) (c1 : Nat) (b : List Int) (A2 : Option Addr) (c2 : Nat) (c : List Int) (opens : Int) (force : Bool) (w : World)
    (hca : a.length ≤ c0) (hCa : Kd.C (Kd.int .u8) w A0 a.length a) (hwa : ∀ x ∈ a, (Lit.int .u8 x).wf = true) (hcb : b.length ≤ c1) (hCb : Kd.C (Kd.int .u8) w A1 b.length b) (hwb : ∀ x ∈ b, (Lit.int .u8 x).wf = true) (hcc : c.length ≤ c2) (hCc : Kd.C (Kd.int .u8) w A2 c.length c) (hwc : ∀ x ∈ c, (Lit.int .u8 x).wf = true)
    (ho : (Lit.int .i64 opens).wf = true) :
    Calls Try.prog 15 #[.slice A0 a.length c0, .slice A1 b.length c1, .slice A2 c.length c2, .int .i64 opens, .bool force] w fun e w' => e = .returned (.bool true) ∧ Below w.heap.size w w' := by
  by_cases hs : a.length ≤ 1000 ∧ b.length ≤ 1000 ∧ c.length ≤ 1000
  · have e1 := Bits.and_3 opens
    exact law_n A0 c0 a A1 c1 b A2 c2 c opens force w hca hCa (Byt.of_wf hwa) hcb hCb (Byt.of_wf hwb) hcc hCc (Byt.of_wf hwc) ((opens % 4).toNat + 1) (by rw [e1]; omega) (by omega) hs.1 hs.2.1 hs.2.2
  · have hA := hCa.2.1
    have hB := hCb.2.1
    have hC := hCc.2.1
    have t : ∀ n : Nat, (decide (1000 < n) = false ∧ decide ((1000 : Int) < (n : Int)) = false) ∨ (decide (1000 < n) = true ∧ decide ((1000 : Int) < (n : Int)) = true) := fun n => by
      rcases Nat.lt_or_ge 1000 n with h | h
      · exact .inr ⟨decide_eq_true h, decide_eq_true (by omega)⟩
      · exact .inl ⟨decide_eq_false (by omega), decide_eq_false (by omega)⟩
    have hd : (decide (1000 < a.length) = true ∧ decide ((1000 : Int) < (a.length : Int)) = true) ∨ ((decide (1000 < a.length) = false ∧ decide ((1000 : Int) < (a.length : Int)) = false) ∧ decide (1000 < b.length) = true ∧ decide ((1000 : Int) < (b.length : Int)) = true) ∨
        ((decide (1000 < a.length) = false ∧ decide ((1000 : Int) < (a.length : Int)) = false) ∧ (decide (1000 < b.length) = false ∧ decide ((1000 : Int) < (b.length : Int)) = false) ∧ decide (1000 < c.length) = true ∧ decide ((1000 : Int) < (c.length : Int)) = true) := by
      rcases t a.length with p | p
      · rcases t b.length with q | q
        · rcases t c.length with r | r
          · exact absurd ⟨by have := of_decide_eq_false p.1; omega, by have := of_decide_eq_false q.1; omega, by have := of_decide_eq_false r.1; omega⟩ hs
          · exact .inr (.inr ⟨p, q, r⟩)
        · exact .inr (.inl ⟨p, q⟩)
      · exact .inl p
    clear hs t hCa hCb hCc hwa hwb hwc hca hcb hcc ho
    rcases hd with ⟨t1, u1⟩ | ⟨⟨t1, u1⟩, t2, u2⟩ | ⟨⟨t1, u1⟩, ⟨t2, u2⟩, t3, u3⟩
    all_goals
      go_enter Try.func15, Try.ntmps15
      go_wp2_with fail
      refine (head_ok _).mono ?_
      rintro e w0 ⟨rfl, hb⟩
      have HB := Aside0.mk hb
      clear hb
      go_wp2
      go_ret
      exact ⟨rfl, HB.out⟩
end WalBehind
end Go.Proofs.Ytihmfccpgahmaaa.Wal
