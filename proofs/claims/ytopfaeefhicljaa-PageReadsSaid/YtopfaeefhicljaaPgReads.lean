/- Proved: PageReads answers true: whatever bytes: the page that they are, just so, and noughts; or they are none. No conditions beyond the given statement's. -/
import Derived.Test.YtopfaeefhicljaaPg
import Derived.Test.YtopfaeefhicljaaPgByt
import Derived.Test.YtopfaeefhicljaaPgLRb
import Derived.Test.YtopfaeefhicljaaWLast
import Derived.Deep.QuietTactic
import Derived.BigQuiet
import Derived.Deep.RegionHeld3
import Derived.Deep.RegionWith
import Derived.RegionTactic
import Derived.Tactics2
namespace Go.Proofs.Ytopfaeefhicljaa.PgReads
open Go Go.RowKit Go.Proofs.Ytopfaeefhicljaa.Q Go.Proofs.YtopfaeefhicljaaW.PrintWords Go.Proofs.YtopfaeefhicljaaW.PrintLast Go.Proofs.Ytopfaeefhicljaa.Leb Go.Proofs.Ytopfaeefhicljaa.Str
set_option linter.unusedVariables false
set_option linter.unusedSimpArgs false

theorem info5 : (Try.prog.info? 5).map (fun i => (i.zero, i.size, i.bytes)) = some (some (.int .u8 0), 1, 1) := by kernel_rfl

theorem cs_cut {w : World} {A : Option Addr} {c : Nat} {l lc t : List Int} (h : Cs w A c l) (hl : l = lc ++ t) : Cs w A c lc := by
  subst hl
  obtain ⟨h1, h2, h3, h4⟩ := h
  rw [List.length_append] at h1 h3 h4
  refine ⟨by omega, rfl, by omega, fun hp => ?_⟩
  obtain ⟨ad, e, hc⟩ := h4 (by omega)
  exact ⟨ad, e, fun j p hj => hc j p (by rw [List.getElem?_append_left (List.getElem?_eq_some_iff.1 hj).1]; exact hj)⟩

theorem byts_ok {q : PgV} {A1 A2 A3 : Option Addr} {c1 c2 c3 : Nat} {w : World} (hR : PgR w q A1 c1 A2 c2 A3 c3) (m : Nat) (hm : m < 18446744073709551616) (h : rightP q = true) :
    Calls Try.prog 22 #[q.lay A1 c1 A2 c2 A3 c3, .int .u64 (m : Int)] w fun e w' => ∃ A c, e = .returned (.slice A (encP q m []).length c) ∧ Cs w' A c (encP q m []) ∧ Below w.heap.size w w' := by
  refine (dockmasterlaw06_bytes.calls 100 q.kind A1 c1 q.keys A2 c2 q.vals A3 c3 q.kids q.root q.next q.size q.idle (m : Int) (encP q m []) w hR.r1 hR.l1 hR.r2 hR.l2 hR.r3 hR.l3 (byt_f 100 q m (by omega) hm h)).mono ?_
  rintro e w' ⟨v0, rfl, hR, hB⟩
  obtain ⟨A, c, rfl, hs⟩ := cs_of hR
  exact ⟨A, c, rfl, hs, hB⟩

set_option maxHeartbeats 4000000 in
set_option maxRecDepth 100000 in
theorem big (A : Option Addr) (c : Nat) (l : List Int) (w : World) (hl : ¬ l.length ≤ 600) (hm : l.length ≤ maxLen) :
    Calls Try.prog 7 #[.slice A l.length c] w fun e w' => e = .returned (.bool true) ∧ Below w.heap.size w w' := by
  have t1 : decide ((600 : Int) < (l.length : Int)) = true := decide_eq_true (by omega)
  have t2 : decide (600 < l.length) = true := decide_eq_true (by omega)
  clear hl
  go_enter Try.func7, Try.ntmps7
  go_wp2_with (go_at_call 15; refine (head_ok _).mono ?_; rintro e w1 ⟨rfl, hb1⟩; have HB1 := Aside0.mk hb1; clear hb1)
  go_ret
  exact ⟨rfl, HB1.out⟩

theorem C_none {α : Type} (d : Kd α) (w : World) : Kd.C d w none ([] : List α).length [] := Kd.C_nil d w

set_option maxHeartbeats 4000000 in
set_option maxRecDepth 100000 in
theorem noPage (A : Option Addr) (c : Nat) (l : List Int) (w : World) (hs : Cs w A c l) (hl : l.length ≤ 600) (hd : page_Decode.f 200 l = some (zeroV.kind, zeroV.keys, zeroV.vals, zeroV.kids, zeroV.root, zeroV.next, zeroV.size, zeroV.idle, 0, 11)) :
    Calls Try.prog 7 #[.slice A l.length c] w fun e w' => e = .returned (.bool true) ∧ Below w.heap.size w w' := by
  have t1 : decide ((600 : Int) < (l.length : Int)) = false := decide_eq_false (by omega)
  have t2 : decide (600 < l.length) = false := decide_eq_false (by omega)
  have S0 := Aside0.mk hs
  have HD := Aside0.mk hd
  clear hs hl hd
  go_enter Try.func7, Try.ntmps7
  go_wp2_with (go_at_call 15; refine (head_ok _).mono ?_; rintro e w1 ⟨rfl, hb1⟩; have HB1 := Aside0.mk hb1; clear hb1)
  refine (dec_calls (S0.out.step HB1.out) zeroV 0 11 HD.out).mono ?_
  rintro e w2 ⟨Z1, z1, Z2, z2, Z3, z3, rfl, hq2, hb2⟩
  have HB2 := Aside0.mk (below_step HB1.out hb2)
  have HQ2 := Aside0.mk hq2
  clear hb2 HB1 hq2
  unfold PgV.lay zeroV
  go_wp2_with fail
  have h1 := HQ2.out.below (below_alloc (Below.refl _ _) (.cells #[.int .i64 0, .slice Z1 0 z1, .slice Z2 0 z2, .slice Z3 0 z3, .int .i64 0, .int .i64 0, .int .i64 0, .int .i64 0] 27))
  have h2 : PgR (w2.alloc (.cells #[.int .i64 0, .slice Z1 0 z1, .slice Z2 0 z2, .slice Z3 0 z3, .int .i64 0, .int .i64 0, .int .i64 0, .int .i64 0] 27)) zeroV none 0 none 0 none 0 := ⟨C_none _ _, Nat.le_refl _, C_none _ _, Nat.le_refl _, C_none _ _, Nat.le_refl _⟩
  have h3 := same_ok h1 h2 (by decide) (by decide) (by decide)
  rw [show sameB zeroV zeroV = true by rw [sameB_iff]] at h3
  have H3 := Aside0.mk h3
  clear h1 h2 h3
  refine H3.out.mono ?_
  rintro e w3 ⟨rfl, hb3⟩
  have HB3 := Aside0.mk (below_step (below_alloc HB2.out _) hb3)
  clear hb3 H3
  go_wp2
  go_ret
  exact ⟨rfl, HB3.out⟩

def pgr9.T9 : Bool × List (List Nat × List Nat) := (true, [([], []), ([0], [0]), ([1], [1]), ([2, 1], [2]), ([3], [3]), ([4, 3], [3, 4]), ([3], [3]), ([6, 3], [3, 6]), ([5, 7, 3], [3, 5, 7]), ([3, 8], [3, 8]), ([9, 3], [9]), ([10], [10]), ([10], [10]), ([12, 10], [10, 12]), ([11, 13, 10], [10, 11, 13]), ([14, 10], [10, 14]), ([10], [10]), ([16, 10], [10, 16]), ([15, 17, 10], [10, 15, 17]), ([10, 18], [10, 18])])
def pgr9.B9 : List Nat := [0, 1, 3, 7, 15, 31, 15, 79, 255, 511, 1023, 2047, 2047, 6143, 16383, 32767, 2047, 67583, 262143, 524287]
theorem pgr9.tab9 : rtab .any (opsOf Try.f7 9) = pgr9.T9 := by kernel_rfl
theorem pgr9.bits9 : waitsOk pgr9.T9.2 pgr9.B9 = true := by kernel_rfl
set_option maxHeartbeats 8000000 in
set_option maxRecDepth 100000 in
theorem good (A : Option Addr) (c : Nat) (l lc t : List Int) (w : World) (q : PgV) (m : Nat) (hs : Cs w A c l) (hl : l.length ≤ 600) (hd : page_Decode.f 200 l = some (q.kind, q.keys, q.vals, q.kids, q.root, q.next, q.size, q.idle, (m : Int), 0))
    (hr : rightP q = true) (hm : m ≤ 9223372036854775807) (hlc : lc = encP q m []) (hlt : l = lc ++ t) (hz : ∀ x ∈ t, x = 0) :
    Calls Try.prog 7 #[.slice A l.length c] w fun e w' => e = .returned (.bool true) ∧ Below w.heap.size w w' := by
  have hlen : l.length = lc.length + t.length := by rw [hlt, List.length_append]
  have t1 : decide ((600 : Int) < (l.length : Int)) = false := decide_eq_false (by omega)
  have t2 : decide (600 < l.length) = false := decide_eq_false (by omega)
  have t3 : decide ((l.length : Int) < (lc.length : Int)) = false := decide_eq_false (by omega)
  have t4 : decide (l.length < lc.length) = false := decide_eq_false (by omega)
  obtain ⟨i0, hi0, _, hsz0, _⟩ := info_parts info5
  have HCUT : Aside0 (∀ W : World, (Instr.slice 28 (.slice A l.length c) none (some (.int .i64 (lc.length : Int))) none).run Try.prog W = .ok (.slice A lc.length c) W) := by
    refine ⟨fun W => ?_⟩
    have := cut_to (P := Try.prog) 28 5 .i64 Try.underlying28 hi0 A l.length c (lc.length : Int) (by omega) (by omega) hs.le W
    simpa using this
  obtain ⟨A1, hcut1, hrd1⟩ := print_cut_of (P := Try.prog) (Value.int .u8) (0 : Int) 28 5 .i64 Try.underlying28 hi0 hsz0 A l.length c lc.length (by omega)
  have hrt : ReadsOf (Value.int .u8) (0 : Int) w A1 t.length t := by
    have h1 := hrd1 w l hs.le (Kd.reads_of_C (h1 := fun _ => rfl) hs.C)
    rw [show l.length - lc.length = t.length by omega, hlt, List.drop_left] at h1
    exact h1
  rw [show l.length - lc.length = t.length by omega] at hcut1
  have HC1 := Aside0.mk hcut1
  have HRT := Aside0.mk hrt
  have S0 := Aside0.mk hs
  have PL0 := Aside0.mk (cs_cut hs hlt)
  have HD := Aside0.mk hd
  have HZ := Aside0.mk hz
  have ls := lens_p (rtP_of hr)
  have BY := Aside0.mk (fun (Z1 : Option Addr) (z1 : Nat) (Z2 : Option Addr) (z2 : Nat) (Z3 : Option Addr) (z3 : Nat) (W : World) (hR : PgR W q Z1 z1 Z2 z2 Z3 z3) => byts_ok hR m (by omega) hr)
  have RT0 := fun (Z1 : Option Addr) (z1 : Nat) (Z2 : Option Addr) (z2 : Nat) (Z3 : Option Addr) (z3 : Nat) (W : World) (hR : PgR W q Z1 z1 Z2 z2 Z3 z3) => lright_ok q Z1 z1 Z2 z2 Z3 z3 W hR
  rw [hr] at RT0
  have RT1 := Aside0.mk RT0
  rw [← hlc] at BY
  have tb : t.length ≤ 600 := by omega
  clear hs hl hd hr hlc hlt hz hlen hsz0 hi0 hrd1 hrt hcut1 RT0 ls
  go_enter Try.func7, Try.ntmps7
  go_wp2_with (go_at_call 15; refine (head_ok _).mono ?_; rintro e w1 ⟨rfl, hb1⟩; have HB1 := Aside0.mk hb1; clear hb1)
  refine (dec_calls (S0.out.step HB1.out) q m 0 HD.out).mono ?_
  rintro e w2 ⟨Z1, z1, Z2, z2, Z3, z3, rfl, hq2, hb2⟩
  have HB2 := Aside0.mk (below_step HB1.out hb2)
  have HQ2 := Aside0.mk hq2
  clear hb2 HB1 hq2
  unfold PgV.lay
  go_upto_region 8 with fail
  obtain ⟨w3, hw3⟩ : ∃ w3, w3 = w2.alloc (.cells #[.int .i64 q.kind, .slice Z1 q.keys.length z1, .slice Z2 q.vals.length z2, .slice Z3 q.kids.length z3, .int .i64 q.root, .int .i64 q.next, .int .i64 q.size, .int .i64 q.idle] 27) := ⟨_, rfl⟩
  have HB3 := Aside0.mk (below_alloc HB2.out (.cells #[.int .i64 q.kind, .slice Z1 q.keys.length z1, .slice Z2 q.vals.length z2, .slice Z3 q.kids.length z3, .int .i64 q.root, .int .i64 q.next, .int .i64 q.size, .int .i64 q.idle] 27))
  have BQ3 := Aside0.mk (PBox.new q Z1 z1 Z2 z2 Z3 z3 w2)
  have HQ3 := Aside0.mk (HQ2.out.below (below_alloc (Below.refl _ _) (.cells #[.int .i64 q.kind, .slice Z1 q.keys.length z1, .slice Z2 q.vals.length z2, .slice Z3 q.kids.length z3, .int .i64 q.root, .int .i64 q.next, .int .i64 q.size, .int .i64 q.idle] 27)))
  rw [← hw3] at HB3 BQ3 HQ3 ⊢
  clear hw3 HB2 HQ2 S0 HD
  generalize w2.heap.size = k3 at BQ3 ⊢
  obtain ⟨_, d0, d1, d2, d3, d4, d5, d6, d7⟩ := BQ3.out
  go_wp2_with fail
  refine (BY.out Z1 z1 Z2 z2 Z3 z3 _ HQ3.out).mono ?_
  rintro e w4 ⟨D, cd, rfl, hc4, hb4⟩
  have HB := Aside0.mk (below_step HB3.out hb4)
  have BQ := Aside0.mk (BQ3.out.below hb4)
  have HQ := Aside0.mk (HQ3.out.below hb4)
  have PC := Aside0.mk hc4
  have PL := Aside0.mk (PL0.out.step HB.out)
  have RT := Aside0.mk (fun (W : World) (hR : PgR W q Z1 z1 Z2 z2 Z3 z3) => RT1.out Z1 z1 Z2 z2 Z3 z3 W hR)
  unfold Tells at RT
  clear d0 d1 d2 d3 d4 d5 d6 d7 HB3 BQ3 HQ3 hb4 hc4 BY RT1 PL0
  go_upto_region 9 with fail
  refine start_ (n := 20) (S := fun w' => True) (ds := []) #[false, false, false, false, false, false, false, false, false, false, false, false, false, false, false, false, false, false, false, false] (by kernel_rfl) rfl rfl trivial (fun hHeld => ?_)
  refine with_tabW pgr9.tab9 pgr9.bits9 (fun HT_ HW_ => ?_)
  have n0 := Aside0.mk (below_step HB.out (below_drew (Below.refl _ _)))
  have n1 := Aside0.mk (BQ.out.below (below_drew (Below.refl _ _)))
  have n2 := Aside0.mk (PL.out.step (below_drew (Below.refl _ _)))
  have n3 := Aside0.mk (PC.out.step (below_drew (Below.refl _ _)))
  have n4 := Aside0.mk (HQ.out.below (below_drew (Below.refl _ _)))
  clear HB BQ PL PC HQ
  generalize w4.drew = wd at n0 n1 n2 n3 n4 hHeld ⊢
  have HB := n0
  have BQ := n1
  have PL := n2
  have PC := n3
  have HQ := n4
  clear n0 n1 n2 n3 n4 hHeld
  refine inv_at [0, 1, 2, 3, 4, 5, 6, 7, 8, 9, 10, 11, 12, 13, 14, 15, 16, 17, 18, 19] (fun a0_ b a w' => a = putSel a0_ b [(0, 36, .agg #[.int .i64 q.kind, .slice Z1 q.keys.length z1, .slice Z2 q.vals.length z2, .slice Z3 q.kids.length z3, .int .i64 q.root, .int .i64 q.next, .int .i64 q.size, .int .i64 q.idle]), (1, 37, .bool true), (2, 38, .bool false), (3, 39, .bool false), (4, 40, .slice D lc.length cd), (5, 41, .int .i64 (lc.length : Int)), (6, 42, .slice A l.length c), (7, 43, .int .i64 (l.length : Int)), (8, 44, .bool false), (9, 45, .bool false), (10, 46, .bool false), (11, 47, .slice A l.length c), (12, 48, .slice D lc.length cd), (13, 49, .int .i64 (lc.length : Int)), (14, 50, .slice A lc.length c), (15, 51, .string (strOfNums lc)), (16, 52, .slice D lc.length cd), (17, 53, .string (strOfNums lc)), (18, 54, .bool false), (19, 55, .bool false)] ∧ (Below w.heap.size w w') ∧ (PBox q Z1 z1 Z2 z2 Z3 z3 k3 w') ∧ (Cs w' A c lc) ∧ (Cs w' D cd lc) ∧ (PgR w' q Z1 z1 Z2 z2 Z3 z3)) HT_.out HW_.out (by kernel_rfl) (by kernel_rfl) ?_ ?_ ?_
  · exact ⟨by simp only [putSel, Bool.false_eq_true, if_false], HB.out, BQ.out, PL.out, PC.out, HQ.out⟩
  · skip
    clear BQ HB HQ PC PL
    refine steps_cons ?_ ?_
    · rintro b a w' ⟨ha, Q_HB, Q_BQ, Q_PL, Q_PC, Q_HQ⟩ hb_ hon hoff
      refine ⟨_, rfl, fun K hK => ?_⟩
      have e3 : a.tmps[3]? = some (.pointer (some ⟨k3, 0, none⟩)) := by rw [ha]; exact (putSel_off rfl).trans rfl
      replace ha := Aside0.mk ha
      have HB := Aside0.mk Q_HB
      have BQ := Aside0.mk Q_BQ
      have PL := Aside0.mk Q_PL
      have PC := Aside0.mk Q_PC
      have HQ := Aside0.mk Q_HQ
      obtain ⟨_, d0, d1, d2, d3, d4, d5, d6, d7⟩ := BQ.out
      refine value_ (w1 := w') (v := .agg #[.int .i64 q.kind, .slice Z1 q.keys.length z1, .slice Z2 q.vals.length z2, .slice Z3 q.kids.length z3, .int .i64 q.root, .int .i64 q.next, .int .i64 q.size, .int .i64 q.idle]) (by rfl) rfl ?_ ?_
      · go_simp
        (try simp only [i64_w])
        try rfl
      refine hK.out _ _ ⟨(by rw [ha.out]; exact putSel_upk 0 hb_ rfl rfl rfl), Q_HB, Q_BQ, Q_PL, Q_PC, Q_HQ⟩
    refine steps_cons ?_ ?_
    · rintro b a w' ⟨ha, Q_HB, Q_BQ, Q_PL, Q_PC, Q_HQ⟩ hb_ hon hoff
      refine ⟨_, rfl, fun K hK => ?_⟩
      have e36 : a.tmps[36]? = some (.agg #[.int .i64 q.kind, .slice Z1 q.keys.length z1, .slice Z2 q.vals.length z2, .slice Z3 q.kids.length z3, .int .i64 q.root, .int .i64 q.next, .int .i64 q.size, .int .i64 q.idle]) := by rw [ha]; exact putSel_on (e := (0, 36, .agg #[.int .i64 q.kind, .slice Z1 q.keys.length z1, .slice Z2 q.vals.length z2, .slice Z3 q.kids.length z3, .int .i64 q.root, .int .i64 q.next, .int .i64 q.size, .int .i64 q.idle])) 0 rfl rfl (hon 0 (by kernel_rfl)) rfl
      replace ha := Aside0.mk ha
      have HB := Aside0.mk Q_HB
      have BQ := Aside0.mk Q_BQ
      have PL := Aside0.mk Q_PL
      have PC := Aside0.mk Q_PC
      have HQ := Aside0.mk Q_HQ
      refine goes_ Try.func21 (by kernel_rfl) rfl #[.agg #[.int .i64 q.kind, .slice Z1 q.keys.length z1, .slice Z2 q.vals.length z2, .slice Z3 q.kids.length z3, .int .i64 q.root, .int .i64 q.next, .int .i64 q.size, .int .i64 q.idle]] (by rfl) rfl rfl (by first | (simp only [List.map_toArray, List.map_cons, List.map_nil, Act.eval, Array.getD_eq_getD_getElem?, Option.getD_some, e36]; done) | (simp only [List.map_toArray, List.map_cons, List.map_nil, Act.eval, Array.getD_eq_getD_getElem?, Option.getD_some, e36]; rfl)) ?_
      refine (RT.out _ HQ.out).mono ?_
      rintro e_ wn_ ⟨rfl, hB_⟩
      refine ⟨_, rfl, ?_⟩
      refine hK.out _ _ ⟨(by rw [ha.out]; exact putSel_upk 1 hb_ rfl rfl rfl), (below_step HB.out hB_), (BQ.out.below hB_), (PL.out.step hB_), (PC.out.step hB_), (HQ.out.below hB_)⟩
    refine steps_cons ?_ ?_
    · rintro b a w' ⟨ha, Q_HB, Q_BQ, Q_PL, Q_PC, Q_HQ⟩ hb_ hon hoff
      refine ⟨_, rfl, fun K hK => ?_⟩
      have e37 : a.tmps[37]? = some (.bool true) := by rw [ha]; exact putSel_on (e := (1, 37, .bool true)) 1 rfl rfl (hon 1 (by kernel_rfl)) rfl
      replace ha := Aside0.mk ha
      have HB := Aside0.mk Q_HB
      have BQ := Aside0.mk Q_BQ
      have PL := Aside0.mk Q_PL
      have PC := Aside0.mk Q_PC
      have HQ := Aside0.mk Q_HQ
      refine value_ (w1 := w') (v := .bool false) (by rfl) rfl ?_ ?_
      · go_simp
        (try simp only [i64_w])
        try rfl
      refine hK.out _ _ ⟨(by rw [ha.out]; exact putSel_upk 2 hb_ rfl rfl rfl), Q_HB, Q_BQ, Q_PL, Q_PC, Q_HQ⟩
    refine steps_cons ?_ ?_
    · rintro b a w' ⟨ha, Q_HB, Q_BQ, Q_PL, Q_PC, Q_HQ⟩ hb_ hon hoff
      refine ⟨_, rfl, fun K hK => ?_⟩
      have e38 : a.tmps[38]? = some (.bool false) := by rw [ha]; exact putSel_on (e := (2, 38, .bool false)) 2 rfl rfl (hon 2 (by kernel_rfl)) rfl
      replace ha := Aside0.mk ha
      have HB := Aside0.mk Q_HB
      have BQ := Aside0.mk Q_BQ
      have PL := Aside0.mk Q_PL
      have PC := Aside0.mk Q_PC
      have HQ := Aside0.mk Q_HQ
      refine value_ (w1 := w') (v := .bool false) (by rfl) rfl ?_ ?_
      · go_simp
        (try simp only [i64_w])
        try rfl
      refine hK.out _ _ ⟨(by rw [ha.out]; exact putSel_upk 3 hb_ rfl rfl rfl), Q_HB, Q_BQ, Q_PL, Q_PC, Q_HQ⟩
    refine steps_cons ?_ ?_
    · rintro b a w' ⟨ha, Q_HB, Q_BQ, Q_PL, Q_PC, Q_HQ⟩ hb_ hon hoff
      refine ⟨_, rfl, fun K hK => ?_⟩
      have e6 : a.tmps[6]? = some (.slice D lc.length cd) := by rw [ha]; exact (putSel_off rfl).trans rfl
      have e39 : a.tmps[39]? = some (.bool false) := by rw [ha]; exact putSel_on (e := (3, 39, .bool false)) 3 rfl rfl (hon 3 (by kernel_rfl)) rfl
      replace ha := Aside0.mk ha
      have HB := Aside0.mk Q_HB
      have BQ := Aside0.mk Q_BQ
      have PL := Aside0.mk Q_PL
      have PC := Aside0.mk Q_PC
      have HQ := Aside0.mk Q_HQ
      refine value_ (w1 := w') (v := .slice D lc.length cd) (wanted_on rfl rfl rfl (e39.trans (by first | rfl | (simp [*]; done)))) rfl ?_ ?_
      · go_simp
        (try simp only [i64_w])
        try rfl
      refine hK.out _ _ ⟨(by rw [ha.out]; exact putSel_upk 4 hb_ rfl rfl rfl), Q_HB, Q_BQ, Q_PL, Q_PC, Q_HQ⟩
    refine steps_cons ?_ ?_
    · rintro b a w' ⟨ha, Q_HB, Q_BQ, Q_PL, Q_PC, Q_HQ⟩ hb_ hon hoff
      refine ⟨_, rfl, fun K hK => ?_⟩
      have e40 : a.tmps[40]? = some (.slice D lc.length cd) := by rw [ha]; exact putSel_on (e := (4, 40, .slice D lc.length cd)) 4 rfl rfl (hon 4 (by kernel_rfl)) rfl
      have e39 : a.tmps[39]? = some (.bool false) := by rw [ha]; exact putSel_on (e := (3, 39, .bool false)) 3 rfl rfl (hon 3 (by kernel_rfl)) rfl
      replace ha := Aside0.mk ha
      have HB := Aside0.mk Q_HB
      have BQ := Aside0.mk Q_BQ
      have PL := Aside0.mk Q_PL
      have PC := Aside0.mk Q_PC
      have HQ := Aside0.mk Q_HQ
      refine value_ (w1 := w') (v := .int .i64 (lc.length : Int)) (wanted_on rfl rfl rfl (e39.trans (by first | rfl | (simp [*]; done)))) rfl ?_ ?_
      · go_simp
        (try simp only [i64_w])
        try rfl
      refine hK.out _ _ ⟨(by rw [ha.out]; exact putSel_upk 5 hb_ rfl rfl rfl), Q_HB, Q_BQ, Q_PL, Q_PC, Q_HQ⟩
    refine steps_cons ?_ ?_
    · rintro b a w' ⟨ha, Q_HB, Q_BQ, Q_PL, Q_PC, Q_HQ⟩ hb_ hon hoff
      refine ⟨_, rfl, fun K hK => ?_⟩
      have e0 : a.tmps[0]? = some (.slice A l.length c) := by rw [ha]; exact (putSel_off rfl).trans rfl
      have e39 : a.tmps[39]? = some (.bool false) := by rw [ha]; exact putSel_on (e := (3, 39, .bool false)) 3 rfl rfl (hon 3 (by kernel_rfl)) rfl
      replace ha := Aside0.mk ha
      have HB := Aside0.mk Q_HB
      have BQ := Aside0.mk Q_BQ
      have PL := Aside0.mk Q_PL
      have PC := Aside0.mk Q_PC
      have HQ := Aside0.mk Q_HQ
      refine value_ (w1 := w') (v := .slice A l.length c) (wanted_on rfl rfl rfl (e39.trans (by first | rfl | (simp [*]; done)))) rfl ?_ ?_
      · go_simp
        (try simp only [i64_w])
        try rfl
      refine hK.out _ _ ⟨(by rw [ha.out]; exact putSel_upk 6 hb_ rfl rfl rfl), Q_HB, Q_BQ, Q_PL, Q_PC, Q_HQ⟩
    refine steps_cons ?_ ?_
    · rintro b a w' ⟨ha, Q_HB, Q_BQ, Q_PL, Q_PC, Q_HQ⟩ hb_ hon hoff
      refine ⟨_, rfl, fun K hK => ?_⟩
      have e42 : a.tmps[42]? = some (.slice A l.length c) := by rw [ha]; exact putSel_on (e := (6, 42, .slice A l.length c)) 6 rfl rfl (hon 6 (by kernel_rfl)) rfl
      have e39 : a.tmps[39]? = some (.bool false) := by rw [ha]; exact putSel_on (e := (3, 39, .bool false)) 3 rfl rfl (hon 3 (by kernel_rfl)) rfl
      replace ha := Aside0.mk ha
      have HB := Aside0.mk Q_HB
      have BQ := Aside0.mk Q_BQ
      have PL := Aside0.mk Q_PL
      have PC := Aside0.mk Q_PC
      have HQ := Aside0.mk Q_HQ
      refine value_ (w1 := w') (v := .int .i64 (l.length : Int)) (wanted_on rfl rfl rfl (e39.trans (by first | rfl | (simp [*]; done)))) rfl ?_ ?_
      · go_simp
        (try simp only [i64_w])
        try rfl
      refine hK.out _ _ ⟨(by rw [ha.out]; exact putSel_upk 7 hb_ rfl rfl rfl), Q_HB, Q_BQ, Q_PL, Q_PC, Q_HQ⟩
    refine steps_cons ?_ ?_
    · rintro b a w' ⟨ha, Q_HB, Q_BQ, Q_PL, Q_PC, Q_HQ⟩ hb_ hon hoff
      refine ⟨_, rfl, fun K hK => ?_⟩
      have e41 : a.tmps[41]? = some (.int .i64 (lc.length : Int)) := by rw [ha]; exact putSel_on (e := (5, 41, .int .i64 (lc.length : Int))) 5 rfl rfl (hon 5 (by kernel_rfl)) rfl
      have e43 : a.tmps[43]? = some (.int .i64 (l.length : Int)) := by rw [ha]; exact putSel_on (e := (7, 43, .int .i64 (l.length : Int))) 7 rfl rfl (hon 7 (by kernel_rfl)) rfl
      have e39 : a.tmps[39]? = some (.bool false) := by rw [ha]; exact putSel_on (e := (3, 39, .bool false)) 3 rfl rfl (hon 3 (by kernel_rfl)) rfl
      replace ha := Aside0.mk ha
      have HB := Aside0.mk Q_HB
      have BQ := Aside0.mk Q_BQ
      have PL := Aside0.mk Q_PL
      have PC := Aside0.mk Q_PC
      have HQ := Aside0.mk Q_HQ
      refine value_ (w1 := w') (v := .bool false) (wanted_on rfl rfl rfl (e39.trans (by first | rfl | (simp [*]; done)))) rfl ?_ ?_
      · go_simp
        (try simp only [i64_w])
        try rfl
      refine hK.out _ _ ⟨(by rw [ha.out]; exact putSel_upk 8 hb_ rfl rfl rfl), Q_HB, Q_BQ, Q_PL, Q_PC, Q_HQ⟩
    refine steps_cons ?_ ?_
    · rintro b a w' ⟨ha, Q_HB, Q_BQ, Q_PL, Q_PC, Q_HQ⟩ hb_ hon hoff
      refine ⟨_, rfl, fun K hK => ?_⟩
      have e39 : a.tmps[39]? = some (.bool false) := by rw [ha]; exact putSel_on (e := (3, 39, .bool false)) 3 rfl rfl (hon 3 (by kernel_rfl)) rfl
      have e44 : a.tmps[44]? = some (.bool false) := by rw [ha]; exact putSel_on (e := (8, 44, .bool false)) 8 rfl rfl (hon 8 (by kernel_rfl)) rfl
      replace ha := Aside0.mk ha
      have HB := Aside0.mk Q_HB
      have BQ := Aside0.mk Q_BQ
      have PL := Aside0.mk Q_PL
      have PC := Aside0.mk Q_PC
      have HQ := Aside0.mk Q_HQ
      refine value_ (w1 := w') (v := .bool false) (by rfl) rfl ?_ ?_
      · go_simp
        (try simp only [i64_w])
        try rfl
      refine hK.out _ _ ⟨(by rw [ha.out]; exact putSel_upk 9 hb_ rfl rfl rfl), Q_HB, Q_BQ, Q_PL, Q_PC, Q_HQ⟩
    refine steps_cons ?_ ?_
    · rintro b a w' ⟨ha, Q_HB, Q_BQ, Q_PL, Q_PC, Q_HQ⟩ hb_ hon hoff
      refine ⟨_, rfl, fun K hK => ?_⟩
      have e45 : a.tmps[45]? = some (.bool false) := by rw [ha]; exact putSel_on (e := (9, 45, .bool false)) 9 rfl rfl (hon 9 (by kernel_rfl)) rfl
      replace ha := Aside0.mk ha
      have HB := Aside0.mk Q_HB
      have BQ := Aside0.mk Q_BQ
      have PL := Aside0.mk Q_PL
      have PC := Aside0.mk Q_PC
      have HQ := Aside0.mk Q_HQ
      refine value_ (w1 := w') (v := .bool false) (by rfl) rfl ?_ ?_
      · go_simp
        (try simp only [i64_w])
        try rfl
      refine hK.out _ _ ⟨(by rw [ha.out]; exact putSel_upk 10 hb_ rfl rfl rfl), Q_HB, Q_BQ, Q_PL, Q_PC, Q_HQ⟩
    refine steps_cons ?_ ?_
    · rintro b a w' ⟨ha, Q_HB, Q_BQ, Q_PL, Q_PC, Q_HQ⟩ hb_ hon hoff
      refine ⟨_, rfl, fun K hK => ?_⟩
      have e0 : a.tmps[0]? = some (.slice A l.length c) := by rw [ha]; exact (putSel_off rfl).trans rfl
      have e46 : a.tmps[46]? = some (.bool false) := by rw [ha]; exact putSel_on (e := (10, 46, .bool false)) 10 rfl rfl (hon 10 (by kernel_rfl)) rfl
      replace ha := Aside0.mk ha
      have HB := Aside0.mk Q_HB
      have BQ := Aside0.mk Q_BQ
      have PL := Aside0.mk Q_PL
      have PC := Aside0.mk Q_PC
      have HQ := Aside0.mk Q_HQ
      refine value_ (w1 := w') (v := .slice A l.length c) (wanted_on rfl rfl rfl (e46.trans (by first | rfl | (simp [*]; done)))) rfl ?_ ?_
      · go_simp
        (try simp only [i64_w])
        try rfl
      refine hK.out _ _ ⟨(by rw [ha.out]; exact putSel_upk 11 hb_ rfl rfl rfl), Q_HB, Q_BQ, Q_PL, Q_PC, Q_HQ⟩
    refine steps_cons ?_ ?_
    · rintro b a w' ⟨ha, Q_HB, Q_BQ, Q_PL, Q_PC, Q_HQ⟩ hb_ hon hoff
      refine ⟨_, rfl, fun K hK => ?_⟩
      have e6 : a.tmps[6]? = some (.slice D lc.length cd) := by rw [ha]; exact (putSel_off rfl).trans rfl
      have e46 : a.tmps[46]? = some (.bool false) := by rw [ha]; exact putSel_on (e := (10, 46, .bool false)) 10 rfl rfl (hon 10 (by kernel_rfl)) rfl
      replace ha := Aside0.mk ha
      have HB := Aside0.mk Q_HB
      have BQ := Aside0.mk Q_BQ
      have PL := Aside0.mk Q_PL
      have PC := Aside0.mk Q_PC
      have HQ := Aside0.mk Q_HQ
      refine value_ (w1 := w') (v := .slice D lc.length cd) (wanted_on rfl rfl rfl (e46.trans (by first | rfl | (simp [*]; done)))) rfl ?_ ?_
      · go_simp
        (try simp only [i64_w])
        try rfl
      refine hK.out _ _ ⟨(by rw [ha.out]; exact putSel_upk 12 hb_ rfl rfl rfl), Q_HB, Q_BQ, Q_PL, Q_PC, Q_HQ⟩
    refine steps_cons ?_ ?_
    · rintro b a w' ⟨ha, Q_HB, Q_BQ, Q_PL, Q_PC, Q_HQ⟩ hb_ hon hoff
      refine ⟨_, rfl, fun K hK => ?_⟩
      have e48 : a.tmps[48]? = some (.slice D lc.length cd) := by rw [ha]; exact putSel_on (e := (12, 48, .slice D lc.length cd)) 12 rfl rfl (hon 12 (by kernel_rfl)) rfl
      have e46 : a.tmps[46]? = some (.bool false) := by rw [ha]; exact putSel_on (e := (10, 46, .bool false)) 10 rfl rfl (hon 10 (by kernel_rfl)) rfl
      replace ha := Aside0.mk ha
      have HB := Aside0.mk Q_HB
      have BQ := Aside0.mk Q_BQ
      have PL := Aside0.mk Q_PL
      have PC := Aside0.mk Q_PC
      have HQ := Aside0.mk Q_HQ
      refine value_ (w1 := w') (v := .int .i64 (lc.length : Int)) (wanted_on rfl rfl rfl (e46.trans (by first | rfl | (simp [*]; done)))) rfl ?_ ?_
      · go_simp
        (try simp only [i64_w])
        try rfl
      refine hK.out _ _ ⟨(by rw [ha.out]; exact putSel_upk 13 hb_ rfl rfl rfl), Q_HB, Q_BQ, Q_PL, Q_PC, Q_HQ⟩
    refine steps_cons ?_ ?_
    · rintro b a w' ⟨ha, Q_HB, Q_BQ, Q_PL, Q_PC, Q_HQ⟩ hb_ hon hoff
      refine ⟨_, rfl, fun K hK => ?_⟩
      have e47 : a.tmps[47]? = some (.slice A l.length c) := by rw [ha]; exact putSel_on (e := (11, 47, .slice A l.length c)) 11 rfl rfl (hon 11 (by kernel_rfl)) rfl
      have e49 : a.tmps[49]? = some (.int .i64 (lc.length : Int)) := by rw [ha]; exact putSel_on (e := (13, 49, .int .i64 (lc.length : Int))) 13 rfl rfl (hon 13 (by kernel_rfl)) rfl
      have e46 : a.tmps[46]? = some (.bool false) := by rw [ha]; exact putSel_on (e := (10, 46, .bool false)) 10 rfl rfl (hon 10 (by kernel_rfl)) rfl
      replace ha := Aside0.mk ha
      have HB := Aside0.mk Q_HB
      have BQ := Aside0.mk Q_BQ
      have PL := Aside0.mk Q_PL
      have PC := Aside0.mk Q_PC
      have HQ := Aside0.mk Q_HQ
      have hcut_ := HCUT.out
      refine value_ (w1 := w') (v := .slice A lc.length c) (wanted_on rfl rfl rfl (e46.trans (by first | rfl | (simp [*]; done)))) rfl ?_ ?_
      · go_simp
        (try simp only [i64_w])
        try rfl
      refine hK.out _ _ ⟨(by rw [ha.out]; exact putSel_upk 14 hb_ rfl rfl rfl), Q_HB, Q_BQ, Q_PL, Q_PC, Q_HQ⟩
    refine steps_cons ?_ ?_
    · rintro b a w' ⟨ha, Q_HB, Q_BQ, Q_PL, Q_PC, Q_HQ⟩ hb_ hon hoff
      refine ⟨_, rfl, fun K hK => ?_⟩
      have e50 : a.tmps[50]? = some (.slice A lc.length c) := by rw [ha]; exact putSel_on (e := (14, 50, .slice A lc.length c)) 14 rfl rfl (hon 14 (by kernel_rfl)) rfl
      have e46 : a.tmps[46]? = some (.bool false) := by rw [ha]; exact putSel_on (e := (10, 46, .bool false)) 10 rfl rfl (hon 10 (by kernel_rfl)) rfl
      replace ha := Aside0.mk ha
      have HB := Aside0.mk Q_HB
      have BQ := Aside0.mk Q_BQ
      have PL := Aside0.mk Q_PL
      have PC := Aside0.mk Q_PC
      have HQ := Aside0.mk Q_HQ
      have hcv_ := PL.out.conv (Below.refl _ _)
      refine value_ (w1 := w') (v := .string (strOfNums lc)) (wanted_on rfl rfl rfl (e46.trans (by first | rfl | (simp [*]; done)))) rfl ?_ ?_
      · go_simp
        (try simp only [i64_w])
        try rfl
      refine hK.out _ _ ⟨(by rw [ha.out]; exact putSel_upk 15 hb_ rfl rfl rfl), Q_HB, Q_BQ, Q_PL, Q_PC, Q_HQ⟩
    refine steps_cons ?_ ?_
    · rintro b a w' ⟨ha, Q_HB, Q_BQ, Q_PL, Q_PC, Q_HQ⟩ hb_ hon hoff
      refine ⟨_, rfl, fun K hK => ?_⟩
      have e6 : a.tmps[6]? = some (.slice D lc.length cd) := by rw [ha]; exact (putSel_off rfl).trans rfl
      have e46 : a.tmps[46]? = some (.bool false) := by rw [ha]; exact putSel_on (e := (10, 46, .bool false)) 10 rfl rfl (hon 10 (by kernel_rfl)) rfl
      replace ha := Aside0.mk ha
      have HB := Aside0.mk Q_HB
      have BQ := Aside0.mk Q_BQ
      have PL := Aside0.mk Q_PL
      have PC := Aside0.mk Q_PC
      have HQ := Aside0.mk Q_HQ
      refine value_ (w1 := w') (v := .slice D lc.length cd) (wanted_on rfl rfl rfl (e46.trans (by first | rfl | (simp [*]; done)))) rfl ?_ ?_
      · go_simp
        (try simp only [i64_w])
        try rfl
      refine hK.out _ _ ⟨(by rw [ha.out]; exact putSel_upk 16 hb_ rfl rfl rfl), Q_HB, Q_BQ, Q_PL, Q_PC, Q_HQ⟩
    refine steps_cons ?_ ?_
    · rintro b a w' ⟨ha, Q_HB, Q_BQ, Q_PL, Q_PC, Q_HQ⟩ hb_ hon hoff
      refine ⟨_, rfl, fun K hK => ?_⟩
      have e52 : a.tmps[52]? = some (.slice D lc.length cd) := by rw [ha]; exact putSel_on (e := (16, 52, .slice D lc.length cd)) 16 rfl rfl (hon 16 (by kernel_rfl)) rfl
      have e46 : a.tmps[46]? = some (.bool false) := by rw [ha]; exact putSel_on (e := (10, 46, .bool false)) 10 rfl rfl (hon 10 (by kernel_rfl)) rfl
      replace ha := Aside0.mk ha
      have HB := Aside0.mk Q_HB
      have BQ := Aside0.mk Q_BQ
      have PL := Aside0.mk Q_PL
      have PC := Aside0.mk Q_PC
      have HQ := Aside0.mk Q_HQ
      have hcv_ := PC.out.conv (Below.refl _ _)
      refine value_ (w1 := w') (v := .string (strOfNums lc)) (wanted_on rfl rfl rfl (e46.trans (by first | rfl | (simp [*]; done)))) rfl ?_ ?_
      · go_simp
        (try simp only [i64_w])
        try rfl
      refine hK.out _ _ ⟨(by rw [ha.out]; exact putSel_upk 17 hb_ rfl rfl rfl), Q_HB, Q_BQ, Q_PL, Q_PC, Q_HQ⟩
    refine steps_cons ?_ ?_
    · rintro b a w' ⟨ha, Q_HB, Q_BQ, Q_PL, Q_PC, Q_HQ⟩ hb_ hon hoff
      refine ⟨_, rfl, fun K hK => ?_⟩
      have e51 : a.tmps[51]? = some (.string (strOfNums lc)) := by rw [ha]; exact putSel_on (e := (15, 51, .string (strOfNums lc))) 15 rfl rfl (hon 15 (by kernel_rfl)) rfl
      have e53 : a.tmps[53]? = some (.string (strOfNums lc)) := by rw [ha]; exact putSel_on (e := (17, 53, .string (strOfNums lc))) 17 rfl rfl (hon 17 (by kernel_rfl)) rfl
      have e46 : a.tmps[46]? = some (.bool false) := by rw [ha]; exact putSel_on (e := (10, 46, .bool false)) 10 rfl rfl (hon 10 (by kernel_rfl)) rfl
      replace ha := Aside0.mk ha
      have HB := Aside0.mk Q_HB
      have BQ := Aside0.mk Q_BQ
      have PL := Aside0.mk Q_PL
      have PC := Aside0.mk Q_PC
      have HQ := Aside0.mk Q_HQ
      refine value_ (w1 := w') (v := .bool false) (wanted_on rfl rfl rfl (e46.trans (by first | rfl | (simp [*]; done)))) rfl ?_ ?_
      · go_simp
        (try simp only [i64_w])
        try rfl
      refine hK.out _ _ ⟨(by rw [ha.out]; exact putSel_upk 18 hb_ rfl rfl rfl), Q_HB, Q_BQ, Q_PL, Q_PC, Q_HQ⟩
    refine steps_cons ?_ ?_
    · rintro b a w' ⟨ha, Q_HB, Q_BQ, Q_PL, Q_PC, Q_HQ⟩ hb_ hon hoff
      refine ⟨_, rfl, fun K hK => ?_⟩
      have e46 : a.tmps[46]? = some (.bool false) := by rw [ha]; exact putSel_on (e := (10, 46, .bool false)) 10 rfl rfl (hon 10 (by kernel_rfl)) rfl
      have e54 : a.tmps[54]? = some (.bool false) := by rw [ha]; exact putSel_on (e := (18, 54, .bool false)) 18 rfl rfl (hon 18 (by kernel_rfl)) rfl
      replace ha := Aside0.mk ha
      have HB := Aside0.mk Q_HB
      have BQ := Aside0.mk Q_BQ
      have PL := Aside0.mk Q_PL
      have PC := Aside0.mk Q_PC
      have HQ := Aside0.mk Q_HQ
      refine value_ (w1 := w') (v := .bool false) (by rfl) rfl ?_ ?_
      · go_simp
        (try simp only [i64_w])
        try rfl
      refine hK.out _ _ ⟨(by rw [ha.out]; exact putSel_upk 19 hb_ rfl rfl rfl), Q_HB, Q_BQ, Q_PL, Q_PC, Q_HQ⟩
    exact steps_nil
  rintro b a w' hall ⟨ha, Q_HB, Q_BQ, Q_PL, Q_PC, Q_HQ⟩
  clear BQ HB HQ PC PL
  have hb0_ := hall 0 (by kernel_rfl)
  have hb1_ := hall 1 (by kernel_rfl)
  have hb2_ := hall 2 (by kernel_rfl)
  have hb3_ := hall 3 (by kernel_rfl)
  have hb4_ := hall 4 (by kernel_rfl)
  have hb5_ := hall 5 (by kernel_rfl)
  have hb6_ := hall 6 (by kernel_rfl)
  have hb7_ := hall 7 (by kernel_rfl)
  have hb8_ := hall 8 (by kernel_rfl)
  have hb9_ := hall 9 (by kernel_rfl)
  have hb10_ := hall 10 (by kernel_rfl)
  have hb11_ := hall 11 (by kernel_rfl)
  have hb12_ := hall 12 (by kernel_rfl)
  have hb13_ := hall 13 (by kernel_rfl)
  have hb14_ := hall 14 (by kernel_rfl)
  have hb15_ := hall 15 (by kernel_rfl)
  have hb16_ := hall 16 (by kernel_rfl)
  have hb17_ := hall 17 (by kernel_rfl)
  have hb18_ := hall 18 (by kernel_rfl)
  have hb19_ := hall 19 (by kernel_rfl)
  subst ha
  simp only [putSel, hb0_, hb1_, hb2_, hb3_, hb4_, hb5_, hb6_, hb7_, hb8_, hb9_, hb10_, hb11_, hb12_, hb13_, hb14_, hb15_, hb16_, hb17_, hb18_, hb19_, if_true, Act.put, List.setIfInBounds_toArray, List.set_cons_zero, List.set_cons_succ]
  have HB := Aside0.mk Q_HB
  clear Q_HB
  have BQ := Aside0.mk Q_BQ
  clear Q_BQ
  have PL := Aside0.mk Q_PL
  clear Q_PL
  have PC := Aside0.mk Q_PC
  clear Q_PC
  have HQ := Aside0.mk Q_HQ
  clear Q_HQ
  clear hall hb0_ hb1_ hb2_ hb3_ hb4_ hb5_ hb6_ hb7_ hb8_ hb9_ hb10_ hb11_ hb12_ hb13_ hb14_ hb15_ hb16_ hb17_ hb18_ hb19_
  clear BQ PL PC HQ RT
  have hcut1 := HC1.out
  have HR1 : Aside0 (∀ W : World, Below w.heap.size w W → ReadsOf (Value.int .u8) (0 : Int) W A1 t.length t) := ⟨fun W hB => HRT.out.below hB⟩
  go_wp2
  have HRW := Aside0.mk (HR1.out _ HB.out)
  clear HR1 HRT hcut1
  go_loop [61] (fun i => ∃ k : Nat, k ≤ t.length ∧ i = .int .i64 k) (fun i => t.length - (intOf i).toNat)
  case atStart => exact ⟨0, Nat.zero_le _, rfl⟩
  case round =>
    obtain ⟨k, hk, rfl⟩ := hrel
    by_cases hlt : k < t.length
    · obtain ⟨ad, hA, hcell⟩ := HRW.out.at_ (k : Int) (by omega) (by omega)
      cases hA
      have hz : rdOf (0 : Int) t (k : Int) = 0 := by
        have := HZ.out _ (getD_mem t k 0 hlt)
        simpa [rdOf] using this
      rw [hz] at hcell
      have hc1 := hcell
      simp only [Int.toNat_natCast] at hc1
      clear hcell hz
      go_wp2
      go_round
      case rel => exact ⟨k + 1, by omega, by go_num⟩
      case measure => simp [intOf]; omega
    · go_wp2
      go_ret
      exact ⟨rfl, HB.out⟩

theorem law_ok (A : Option Addr) (c : Nat) (l : List Int) (w : World) (hc : l.length ≤ c) (hC : Kd.C (Kd.int .u8) w A l.length l) (hw : ∀ x ∈ l, (Lit.int .u8 x).wf = true) :
    Calls Try.prog 7 #[.slice A l.length c] w fun e w' => e = .returned (.bool true) ∧ Below w.heap.size w w' := by
  by_cases hl : l.length ≤ 600
  · rcases dec_any_p 200 l (by omega) (Byt.of_wf hw) (by omega) with h | ⟨p, m, t, h, hr, he, hz, hm⟩
    · exact noPage A c l w ⟨hc, hC⟩ hl h
    · exact good A c l (encP p m []) t w p m ⟨hc, hC⟩ hl h hr hm rfl (by rw [he, encP_app]) hz
  · exact big A c l w hl hC.2.1

end Go.Proofs.Ytopfaeefhicljaa.PgReads
