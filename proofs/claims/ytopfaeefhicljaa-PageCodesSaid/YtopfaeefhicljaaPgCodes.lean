/- Proved: PageCodes answers true: any page as bytes, and back; what isn't right is told. No conditions beyond the given statement's. -/
import Derived.Test.YtopfaeefhicljaaPg
import Derived.Test.YtopfaeefhicljaaPgByt
import Derived.Test.YtopfaeefhicljaaPgLRb
import Derived.Test.YtopfaeefhicljaaWLast
import Derived.Deep.QuietTactic
import Derived.BigQuiet
import Derived.Deep.RegionHeld3
import Derived.Deep.RegionWith
import Derived.RegionTactic
import Derived.Tactics2
namespace Go.Proofs.Ytopfaeefhicljaa.PgCodes
open Go Go.RowKit Go.Proofs.Ytopfaeefhicljaa.Q Go.Proofs.YtopfaeefhicljaaW.PrintWords Go.Proofs.YtopfaeefhicljaaW.PrintLast Go.Proofs.Ytopfaeefhicljaa.Leb Go.Proofs.Ytopfaeefhicljaa.Str
set_option linter.unusedVariables false
set_option linter.unusedSimpArgs false

theorem and_mask (i : Int) (m : Nat) (hm : m < 9223372036854775808) : ∃ k : Nat, bits .and .i64 i (m : Int) = (k : Int) ∧ k ≤ m := by
  have hb' : m % 2 ^ IntKind.i64.bits = m := Nat.mod_eq_of_lt (by simp [IntKind.bits]; omega)
  have hq : (BitVec.ofInt IntKind.i64.bits i).toNat &&& m ≤ m := Nat.and_le_right
  refine ⟨(BitVec.ofInt IntKind.i64.bits i).toNat &&& m, ?_, hq⟩
  simp only [bits, BitVec.ofInt_natCast, BitVec.toNat_and, BitVec.toNat_ofNat, hb']
  rw [IntKind.wrap_i64]
  omega

theorem byts_ok {q : PgV} {A1 A2 A3 : Option Addr} {c1 c2 c3 : Nat} {w : World} (hR : PgR w q A1 c1 A2 c2 A3 c3) (m : Nat) (hm : m < 18446744073709551616) (h : rightP q = true) :
    Calls Try.prog 22 #[q.lay A1 c1 A2 c2 A3 c3, .int .u64 (m : Int)] w fun e w' => ∃ A c, e = .returned (.slice A (encP q m []).length c) ∧ Cs w' A c (encP q m []) ∧ Below w.heap.size w w' := by
  refine (dockmasterlaw06_bytes.calls 100 q.kind A1 c1 q.keys A2 c2 q.vals A3 c3 q.kids q.root q.next q.size q.idle (m : Int) (encP q m []) w hR.r1 hR.l1 hR.r2 hR.l2 hR.r3 hR.l3 (byt_f 100 q m (by omega) hm h)).mono ?_
  rintro e w' ⟨v0, rfl, hR, hB⟩
  obtain ⟨A, c, rfl, hs⟩ := cs_of hR
  exact ⟨A, c, rfl, hs, hB⟩

theorem info5 : (Try.prog.info? 5).map (fun i => (i.zero, i.size, i.bytes)) = some (some (.int .u8 0), 1, 1) := by kernel_rfl

set_option maxHeartbeats 4000000 in
set_option maxRecDepth 100000 in
theorem large (p : PgV) (A1 : Option Addr) (c1 : Nat) (A2 : Option Addr) (c2 : Nat) (A3 : Option Addr) (c3 : Nat) (lsn more : Int) (w : World) (hp : PgR w p A1 c1 A2 c2 A3 c3) (hsm : smallB p = false) :
    Calls Try.prog 6 #[p.lay A1 c1 A2 c2 A3 c3, .int .u64 lsn, .int .i64 more] w fun e w' => e = .returned (.bool true) ∧ Below w.heap.size w w' := by
  have BP0 := Aside0.mk (PBox.new p A1 c1 A2 c2 A3 c3 w)
  have HP0 := Aside0.mk (hp.below (below_alloc (Below.refl _ _) (.cells #[.int .i64 p.kind, .slice A1 p.keys.length c1, .slice A2 p.vals.length c2, .slice A3 p.kids.length c3, .int .i64 p.root, .int .i64 p.next, .int .i64 p.size, .int .i64 p.idle] 27)))
  have S1 := Aside0.mk hsm
  clear hp hsm
  go_enter Try.func6, Try.ntmps6
  go_wp2_with (go_at_call 15; refine (head_ok _).mono ?_; rintro e w1 ⟨rfl, hb1⟩; have HB1 := Aside0.mk (below_step (below_alloc (Below.refl _ _) _) hb1); have BP1 := Aside0.mk (BP0.out.below hb1); have HP1 := Aside0.mk (HP0.out.below hb1); obtain ⟨_, d0, d1, d2, d3, d4, d5, d6, d7⟩ := BP1.out; clear hb1)
  refine (small_ok HP1.out).mono ?_
  rintro e w2 ⟨rfl, hb2⟩
  rw [S1.out]
  have HB2 := Aside0.mk (below_step HB1.out hb2)
  have BP2 := Aside0.mk (BP1.out.below hb2)
  have HP2 := Aside0.mk (HP1.out.below hb2)
  clear hb2 d0 d1 d2 d3 d4 d5 d6 d7 HB1 BP1 HP1
  go_wp2
  go_ret
  exact ⟨rfl, HB2.out⟩

def pgc6t.T6 : Bool × List (List Nat × List Nat) := (true, [([], []), ([0], [0]), ([], []), ([2, 1], [2]), ([1, 3], [1, 3])])
def pgc6t.B6 : List Nat := [0, 1, 0, 7, 15]
theorem pgc6t.tab6 : rtab .any (opsOf Try.f6 6) = pgc6t.T6 := by kernel_rfl
theorem pgc6t.bits6 : waitsOk pgc6t.T6.2 pgc6t.B6 = true := by kernel_rfl
def pgc6f.T6 : Bool × List (List Nat × List Nat) := (true, [([], []), ([0], [0]), ([], []), ([2, 1], [2]), ([1, 3], [1, 3])])
def pgc6f.B6 : List Nat := [0, 1, 0, 7, 15]
theorem pgc6f.tab6 : rtab .any (opsOf Try.f6 6) = pgc6f.T6 := by kernel_rfl
theorem pgc6f.bits6 : waitsOk pgc6f.T6.2 pgc6f.B6 = true := by kernel_rfl
def pgc10.T10 : Bool × List (List Nat × List Nat) := (true, [([], []), ([0], [0]), ([1], [1]), ([2], [2]), ([3, 2], [2, 3]), ([2], [2]), ([2], [2]), ([5, 6, 2, 2], [2, 5, 6]), ([7, 2], [2, 7]), ([4, 8, 2], [2, 4, 8]), ([2, 9], [2, 9]), ([10, 7], [10]), ([11], [11]), ([12, 11], [11, 12]), ([13, 11], [11, 13]), ([11, 14], [11, 14])])
def pgc10.B10 : List Nat := [0, 1, 3, 7, 15, 7, 7, 103, 231, 511, 1023, 2047, 4095, 8191, 16383, 32767]
theorem pgc10.tab10 : rtab .any (opsOf Try.f6 10) = pgc10.T10 := by kernel_rfl
theorem pgc10.bits10 : waitsOk pgc10.T10.2 pgc10.B10 = true := by kernel_rfl
set_option maxHeartbeats 8000000 in
set_option maxRecDepth 100000 in
theorem bad (p : PgV) (A1 : Option Addr) (c1 : Nat) (A2 : Option Addr) (c2 : Nat) (A3 : Option Addr) (c3 : Nat) (lsn more : Int) (w : World) (hp : PgR w p A1 c1 A2 c2 A3 c3) (hsm : smallB p = true) (hr : rightP p = false) :
    Calls Try.prog 6 #[p.lay A1 c1 A2 c2 A3 c3, .int .u64 lsn, .int .i64 more] w fun e w' => e = .returned (.bool true) ∧ Below w.heap.size w w' := by
  have hls := of_decide_eq_true (show decide (p.keys.length ≤ 20 ∧ p.vals.length ≤ 20 ∧ p.kids.length ≤ 20) = true from hsm)
  have EN := Aside0.mk (fun (W : World) (hR : PgR W p A1 c1 A2 c2 A3 c3) => enc_no hR lsn (by omega) (by omega) (by omega) hr)
  have RG0 := fun (W : World) (hR : PgR W p A1 c1 A2 c2 A3 c3) => right_ok hR (by omega) (by omega) (by omega)
  have RT0 := fun (W : World) (hR : PgR W p A1 c1 A2 c2 A3 c3) => lright_ok p A1 c1 A2 c2 A3 c3 W hR
  rw [hr] at RG0 RT0
  have RG := Aside0.mk RG0
  have RT := Aside0.mk RT0
  unfold Tells at RT
  have BP0 := Aside0.mk (PBox.new p A1 c1 A2 c2 A3 c3 w)
  have HP0 := Aside0.mk (hp.below (below_alloc (Below.refl _ _) (.cells #[.int .i64 p.kind, .slice A1 p.keys.length c1, .slice A2 p.vals.length c2, .slice A3 p.kids.length c3, .int .i64 p.root, .int .i64 p.next, .int .i64 p.size, .int .i64 p.idle] 27)))
  have S1 := Aside0.mk hsm
  clear hp hsm hr hls RG0 RT0
  go_enter Try.func6, Try.ntmps6
  go_wp2_with (go_at_call 15; refine (head_ok _).mono ?_; rintro e w1 ⟨rfl, hb1⟩; have HB1 := Aside0.mk (below_step (below_alloc (Below.refl _ _) _) hb1); have BP1 := Aside0.mk (BP0.out.below hb1); have HP1 := Aside0.mk (HP0.out.below hb1); obtain ⟨_, d0, d1, d2, d3, d4, d5, d6, d7⟩ := BP1.out; clear hb1)
  refine (small_ok HP1.out).mono ?_
  rintro e w2 ⟨rfl, hb2⟩
  rw [S1.out]
  have HB2 := Aside0.mk (below_step HB1.out hb2)
  have BP2 := Aside0.mk (BP1.out.below hb2)
  have HP2 := Aside0.mk (HP1.out.below hb2)
  clear hb2 d0 d1 d2 d3 d4 d5 d6 d7 HB1 BP1 HP1
  obtain ⟨_, d0, d1, d2, d3, d4, d5, d6, d7⟩ := BP2.out
  go_wp2_with fail
  refine (EN.out _ HP2.out).mono ?_
  rintro e w3 ⟨X, cx, rfl, hb3⟩
  have HB := Aside0.mk (below_step HB2.out hb3)
  have BP := Aside0.mk (BP2.out.below hb3)
  have HP := Aside0.mk (HP2.out.below hb3)
  clear hb3 d0 d1 d2 d3 d4 d5 d6 d7 HB2 BP2 HP2 EN
  go_upto_region 6 with fail
  refine start_ (n := 5) (S := fun w' => True) (ds := []) #[false, false, false, false, false] (by kernel_rfl) rfl rfl trivial (fun hHeld => ?_)
  refine with_tabW pgc6f.tab6 pgc6f.bits6 (fun HT_ HW_ => ?_)
  have n0 := Aside0.mk (below_step HB.out (below_drew (Below.refl _ _)))
  have n1 := Aside0.mk (BP.out.below (below_drew (Below.refl _ _)))
  have n2 := Aside0.mk (HP.out.below (below_drew (Below.refl _ _)))
  clear HB BP HP
  generalize w3.drew = wd at n0 n1 n2 hHeld ⊢
  have HB := n0
  have BP := n1
  have HP := n2
  clear n0 n1 n2 hHeld
  refine inv_at [0, 1, 2, 3, 4] (fun a0_ b a w' => a = putSel a0_ b [(0, 23, .agg #[.int .i64 p.kind, .slice A1 p.keys.length c1, .slice A2 p.vals.length c2, .slice A3 p.kids.length c3, .int .i64 p.root, .int .i64 p.next, .int .i64 p.size, .int .i64 p.idle]), (1, 24, .bool false), (2, 25, .agg #[.int .i64 p.kind, .slice A1 p.keys.length c1, .slice A2 p.vals.length c2, .slice A3 p.kids.length c3, .int .i64 p.root, .int .i64 p.next, .int .i64 p.size, .int .i64 p.idle]), (3, 26, .bool false), (4, 27, .bool false)] ∧ (Below w.heap.size w w') ∧ (PBox p A1 c1 A2 c2 A3 c3 w.heap.size w') ∧ (PgR w' p A1 c1 A2 c2 A3 c3)) HT_.out HW_.out (by kernel_rfl) (by kernel_rfl) ?_ ?_ ?_
  · exact ⟨by simp only [putSel, Bool.false_eq_true, if_false], HB.out, BP.out, HP.out⟩
  · skip
    clear BP HB HP
    refine steps_cons ?_ ?_
    · rintro b a w' ⟨ha, Q_HB, Q_BP, Q_HP⟩ hb_ hon hoff
      refine ⟨_, rfl, fun K hK => ?_⟩
      have e3 : a.tmps[3]? = some (.pointer (some ⟨w.heap.size, 0, none⟩)) := by rw [ha]; exact (putSel_off rfl).trans rfl
      replace ha := Aside0.mk ha
      have HB := Aside0.mk Q_HB
      have BP := Aside0.mk Q_BP
      have HP := Aside0.mk Q_HP
      obtain ⟨_, d0, d1, d2, d3, d4, d5, d6, d7⟩ := BP.out
      refine value_ (w1 := w') (v := .agg #[.int .i64 p.kind, .slice A1 p.keys.length c1, .slice A2 p.vals.length c2, .slice A3 p.kids.length c3, .int .i64 p.root, .int .i64 p.next, .int .i64 p.size, .int .i64 p.idle]) (by rfl) rfl ?_ ?_
      · go_simp
        (try simp only [i64_w])
        try rfl
      refine hK.out _ _ ⟨(by rw [ha.out]; exact putSel_upk 0 hb_ rfl rfl rfl), Q_HB, Q_BP, Q_HP⟩
    refine steps_cons ?_ ?_
    · rintro b a w' ⟨ha, Q_HB, Q_BP, Q_HP⟩ hb_ hon hoff
      refine ⟨_, rfl, fun K hK => ?_⟩
      have e23 : a.tmps[23]? = some (.agg #[.int .i64 p.kind, .slice A1 p.keys.length c1, .slice A2 p.vals.length c2, .slice A3 p.kids.length c3, .int .i64 p.root, .int .i64 p.next, .int .i64 p.size, .int .i64 p.idle]) := by rw [ha]; exact putSel_on (e := (0, 23, .agg #[.int .i64 p.kind, .slice A1 p.keys.length c1, .slice A2 p.vals.length c2, .slice A3 p.kids.length c3, .int .i64 p.root, .int .i64 p.next, .int .i64 p.size, .int .i64 p.idle])) 0 rfl rfl (hon 0 (by kernel_rfl)) rfl
      replace ha := Aside0.mk ha
      have HB := Aside0.mk Q_HB
      have BP := Aside0.mk Q_BP
      have HP := Aside0.mk Q_HP
      refine goes_ Try.func17 (by kernel_rfl) rfl #[.agg #[.int .i64 p.kind, .slice A1 p.keys.length c1, .slice A2 p.vals.length c2, .slice A3 p.kids.length c3, .int .i64 p.root, .int .i64 p.next, .int .i64 p.size, .int .i64 p.idle]] (by rfl) rfl rfl (by first | (simp only [List.map_toArray, List.map_cons, List.map_nil, Act.eval, Array.getD_eq_getD_getElem?, Option.getD_some, e23]; done) | (simp only [List.map_toArray, List.map_cons, List.map_nil, Act.eval, Array.getD_eq_getD_getElem?, Option.getD_some, e23]; rfl)) ?_
      refine (RG.out _ HP.out).mono ?_
      rintro e_ wn_ ⟨rfl, hB_⟩
      refine ⟨_, rfl, ?_⟩
      refine hK.out _ _ ⟨(by rw [ha.out]; exact putSel_upk 1 hb_ rfl rfl rfl), (below_step HB.out hB_), (BP.out.below hB_), (HP.out.below hB_)⟩
    refine steps_cons ?_ ?_
    · rintro b a w' ⟨ha, Q_HB, Q_BP, Q_HP⟩ hb_ hon hoff
      refine ⟨_, rfl, fun K hK => ?_⟩
      have e3 : a.tmps[3]? = some (.pointer (some ⟨w.heap.size, 0, none⟩)) := by rw [ha]; exact (putSel_off rfl).trans rfl
      replace ha := Aside0.mk ha
      have HB := Aside0.mk Q_HB
      have BP := Aside0.mk Q_BP
      have HP := Aside0.mk Q_HP
      obtain ⟨_, d0, d1, d2, d3, d4, d5, d6, d7⟩ := BP.out
      refine value_ (w1 := w') (v := .agg #[.int .i64 p.kind, .slice A1 p.keys.length c1, .slice A2 p.vals.length c2, .slice A3 p.kids.length c3, .int .i64 p.root, .int .i64 p.next, .int .i64 p.size, .int .i64 p.idle]) (by rfl) rfl ?_ ?_
      · go_simp
        (try simp only [i64_w])
        try rfl
      refine hK.out _ _ ⟨(by rw [ha.out]; exact putSel_upk 2 hb_ rfl rfl rfl), Q_HB, Q_BP, Q_HP⟩
    refine steps_cons ?_ ?_
    · rintro b a w' ⟨ha, Q_HB, Q_BP, Q_HP⟩ hb_ hon hoff
      refine ⟨_, rfl, fun K hK => ?_⟩
      have e25 : a.tmps[25]? = some (.agg #[.int .i64 p.kind, .slice A1 p.keys.length c1, .slice A2 p.vals.length c2, .slice A3 p.kids.length c3, .int .i64 p.root, .int .i64 p.next, .int .i64 p.size, .int .i64 p.idle]) := by rw [ha]; exact putSel_on (e := (2, 25, .agg #[.int .i64 p.kind, .slice A1 p.keys.length c1, .slice A2 p.vals.length c2, .slice A3 p.kids.length c3, .int .i64 p.root, .int .i64 p.next, .int .i64 p.size, .int .i64 p.idle])) 2 rfl rfl (hon 2 (by kernel_rfl)) rfl
      replace ha := Aside0.mk ha
      have HB := Aside0.mk Q_HB
      have BP := Aside0.mk Q_BP
      have HP := Aside0.mk Q_HP
      refine goes_ Try.func21 (by kernel_rfl) rfl #[.agg #[.int .i64 p.kind, .slice A1 p.keys.length c1, .slice A2 p.vals.length c2, .slice A3 p.kids.length c3, .int .i64 p.root, .int .i64 p.next, .int .i64 p.size, .int .i64 p.idle]] (by rfl) rfl rfl (by first | (simp only [List.map_toArray, List.map_cons, List.map_nil, Act.eval, Array.getD_eq_getD_getElem?, Option.getD_some, e25]; done) | (simp only [List.map_toArray, List.map_cons, List.map_nil, Act.eval, Array.getD_eq_getD_getElem?, Option.getD_some, e25]; rfl)) ?_
      refine (RT.out _ HP.out).mono ?_
      rintro e_ wn_ ⟨rfl, hB_⟩
      refine ⟨_, rfl, ?_⟩
      refine hK.out _ _ ⟨(by rw [ha.out]; exact putSel_upk 3 hb_ rfl rfl rfl), (below_step HB.out hB_), (BP.out.below hB_), (HP.out.below hB_)⟩
    refine steps_cons ?_ ?_
    · rintro b a w' ⟨ha, Q_HB, Q_BP, Q_HP⟩ hb_ hon hoff
      refine ⟨_, rfl, fun K hK => ?_⟩
      have e24 : a.tmps[24]? = some (.bool false) := by rw [ha]; exact putSel_on (e := (1, 24, .bool false)) 1 rfl rfl (hon 1 (by kernel_rfl)) rfl
      have e26 : a.tmps[26]? = some (.bool false) := by rw [ha]; exact putSel_on (e := (3, 26, .bool false)) 3 rfl rfl (hon 3 (by kernel_rfl)) rfl
      replace ha := Aside0.mk ha
      have HB := Aside0.mk Q_HB
      have BP := Aside0.mk Q_BP
      have HP := Aside0.mk Q_HP
      refine value_ (w1 := w') (v := .bool false) (by rfl) rfl ?_ ?_
      · go_simp
        (try simp only [i64_w])
        try rfl
      refine hK.out _ _ ⟨(by rw [ha.out]; exact putSel_upk 4 hb_ rfl rfl rfl), Q_HB, Q_BP, Q_HP⟩
    exact steps_nil
  rintro b a w' hall ⟨ha, Q_HB, Q_BP, Q_HP⟩
  clear BP HB HP
  have hb0_ := hall 0 (by kernel_rfl)
  have hb1_ := hall 1 (by kernel_rfl)
  have hb2_ := hall 2 (by kernel_rfl)
  have hb3_ := hall 3 (by kernel_rfl)
  have hb4_ := hall 4 (by kernel_rfl)
  subst ha
  simp only [putSel, hb0_, hb1_, hb2_, hb3_, hb4_, if_true, Act.put, List.setIfInBounds_toArray, List.set_cons_zero, List.set_cons_succ]
  have HB := Aside0.mk Q_HB
  clear Q_HB
  have BP := Aside0.mk Q_BP
  clear Q_BP
  have HP := Aside0.mk Q_HP
  clear Q_HP
  clear hall hb0_ hb1_ hb2_ hb3_ hb4_
  have HBa := Aside0.mk HB.out
  have BPa := Aside0.mk BP.out
  have HPa := Aside0.mk HP.out
  clear HB BP HP
  obtain ⟨_, d0, d1, d2, d3, d4, d5, d6, d7⟩ := BPa.out
  go_wp2_with fail
  refine (RT.out _ HPa.out).mono ?_
  rintro e w4 ⟨rfl, hb4⟩
  have HB4 := Aside0.mk (below_step HBa.out hb4)
  clear hb4 d0 d1 d2 d3 d4 d5 d6 d7 HBa BPa HPa
  go_wp2
  go_ret
  exact ⟨rfl, HB4.out⟩

set_option maxHeartbeats 8000000 in
set_option maxRecDepth 100000 in
theorem good (p : PgV) (A1 : Option Addr) (c1 : Nat) (A2 : Option Addr) (c2 : Nat) (A3 : Option Addr) (c3 : Nat) (na : Nat) (more : Int) (lx : List Int) (q : PgV) (n : Nat) (fe : Int) (w : World) (hp : PgR w p A1 c1 A2 c2 A3 c3) (hsm : smallB p = true) (hr : rightP p = true) (ha : na < 18446744073709551616) (hlx : lx = encP p na []) (hll : lx.length ≤ 500)
    (hd : ∀ m : Nat, m ≤ 511 → page_Decode.f 200 (lx ++ List.replicate m 0) = some (q.kind, q.keys, q.vals, q.kids, q.root, q.next, q.size, q.idle, (n : Int), fe))
    (hc : (9223372036854775807 < na ∧ fe = 11) ∨ (na ≤ 9223372036854775807 ∧ fe = 0 ∧ n = na ∧ q = p)) :
    Calls Try.prog 6 #[p.lay A1 c1 A2 c2 A3 c3, .int .u64 (na : Int), .int .i64 more] w fun e w' => e = .returned (.bool true) ∧ Below w.heap.size w w' := by
  have hls := of_decide_eq_true (show decide (p.keys.length ≤ 20 ∧ p.vals.length ≤ 20 ∧ p.kids.length ≤ 20) = true from hsm)
  have EN0 := fun (W : World) (hR : PgR W p A1 c1 A2 c2 A3 c3) => enc_ok hR na ha hr
  have BY0 := fun (W : World) (hR : PgR W p A1 c1 A2 c2 A3 c3) => byts_ok hR na ha hr
  have RG0 := fun (W : World) (hR : PgR W p A1 c1 A2 c2 A3 c3) => right_ok hR (by omega) (by omega) (by omega)
  have RT0 := fun (W : World) (hR : PgR W p A1 c1 A2 c2 A3 c3) => lright_ok p A1 c1 A2 c2 A3 c3 W hR
  rw [hr] at RG0 RT0
  rw [← hlx] at EN0 BY0
  have EN := Aside0.mk EN0
  have BY := Aside0.mk BY0
  have RG := Aside0.mk RG0
  have RT := Aside0.mk RT0
  unfold Tells at RT
  have t3 : decide ((512 : Int) < (lx.length : Int)) = false := decide_eq_false (by omega)
  have t4 : decide (512 < lx.length) = false := decide_eq_false (by omega)
  have HL := Aside0.mk hls
  have HLL := Aside0.mk hll
  have HD := Aside0.mk hd
  have HC := Aside0.mk hc
  obtain ⟨m, hm, hmm0⟩ := and_mask more 511 (by omega)
  rw [show ((511 : Nat) : Int) = 511 from rfl] at hm
  have hmm := Aside0.mk hmm0
  have BP0 := Aside0.mk (PBox.new p A1 c1 A2 c2 A3 c3 w)
  have HP0 := Aside0.mk (hp.below (below_alloc (Below.refl _ _) (.cells #[.int .i64 p.kind, .slice A1 p.keys.length c1, .slice A2 p.vals.length c2, .slice A3 p.kids.length c3, .int .i64 p.root, .int .i64 p.next, .int .i64 p.size, .int .i64 p.idle] 27)))
  have S1 := Aside0.mk hsm
  clear hp hsm hr hls RG0 RT0 EN0 BY0 hlx hll hd hc hmm0 ha
  go_enter Try.func6, Try.ntmps6
  go_wp2_with (go_at_call 15; refine (head_ok _).mono ?_; rintro e w1 ⟨rfl, hb1⟩; have HB1 := Aside0.mk (below_step (below_alloc (Below.refl _ _) _) hb1); have BP1 := Aside0.mk (BP0.out.below hb1); have HP1 := Aside0.mk (HP0.out.below hb1); obtain ⟨_, d0, d1, d2, d3, d4, d5, d6, d7⟩ := BP1.out; clear hb1)
  refine (small_ok HP1.out).mono ?_
  rintro e w2 ⟨rfl, hb2⟩
  rw [S1.out]
  have HB2 := Aside0.mk (below_step HB1.out hb2)
  have BP2 := Aside0.mk (BP1.out.below hb2)
  have HP2 := Aside0.mk (HP1.out.below hb2)
  clear hb2 d0 d1 d2 d3 d4 d5 d6 d7 HB1 BP1 HP1
  obtain ⟨_, d0, d1, d2, d3, d4, d5, d6, d7⟩ := BP2.out
  go_wp2_with fail
  refine (EN.out _ HP2.out).mono ?_
  rintro e w3 ⟨X, cx, rfl, hx3, hb3⟩
  have HB := Aside0.mk (below_step HB2.out hb3)
  have BP := Aside0.mk (BP2.out.below hb3)
  have HP := Aside0.mk (HP2.out.below hb3)
  have PX := Aside0.mk hx3
  clear hb3 hx3 d0 d1 d2 d3 d4 d5 d6 d7 HB2 BP2 HP2 EN
  go_upto_region 6 with fail
  refine start_ (n := 5) (S := fun w' => True) (ds := []) #[false, false, false, false, false] (by kernel_rfl) rfl rfl trivial (fun hHeld => ?_)
  refine with_tabW pgc6t.tab6 pgc6t.bits6 (fun HT_ HW_ => ?_)
  have n0 := Aside0.mk (below_step HB.out (below_drew (Below.refl _ _)))
  have n1 := Aside0.mk (BP.out.below (below_drew (Below.refl _ _)))
  have n2 := Aside0.mk (HP.out.below (below_drew (Below.refl _ _)))
  have n3 := Aside0.mk (PX.out.step (below_drew (Below.refl _ _)))
  clear HB BP HP PX
  generalize w3.drew = wd at n0 n1 n2 n3 hHeld ⊢
  have HB := n0
  have BP := n1
  have HP := n2
  have PX := n3
  clear n0 n1 n2 n3 hHeld
  refine inv_at [0, 1, 2, 3, 4] (fun a0_ b a w' => a = putSel a0_ b [(0, 23, .agg #[.int .i64 p.kind, .slice A1 p.keys.length c1, .slice A2 p.vals.length c2, .slice A3 p.kids.length c3, .int .i64 p.root, .int .i64 p.next, .int .i64 p.size, .int .i64 p.idle]), (1, 24, .bool true), (2, 25, .agg #[.int .i64 p.kind, .slice A1 p.keys.length c1, .slice A2 p.vals.length c2, .slice A3 p.kids.length c3, .int .i64 p.root, .int .i64 p.next, .int .i64 p.size, .int .i64 p.idle]), (3, 26, .bool true), (4, 27, .bool false)] ∧ (Below w.heap.size w w') ∧ (PBox p A1 c1 A2 c2 A3 c3 w.heap.size w') ∧ (PgR w' p A1 c1 A2 c2 A3 c3) ∧ (Cs w' X cx lx)) HT_.out HW_.out (by kernel_rfl) (by kernel_rfl) ?_ ?_ ?_
  · exact ⟨by simp only [putSel, Bool.false_eq_true, if_false], HB.out, BP.out, HP.out, PX.out⟩
  · skip
    clear BP HB HP PX
    refine steps_cons ?_ ?_
    · rintro b a w' ⟨ha, Q_HB, Q_BP, Q_HP, Q_PX⟩ hb_ hon hoff
      refine ⟨_, rfl, fun K hK => ?_⟩
      have e3 : a.tmps[3]? = some (.pointer (some ⟨w.heap.size, 0, none⟩)) := by rw [ha]; exact (putSel_off rfl).trans rfl
      replace ha := Aside0.mk ha
      have HB := Aside0.mk Q_HB
      have BP := Aside0.mk Q_BP
      have HP := Aside0.mk Q_HP
      have PX := Aside0.mk Q_PX
      obtain ⟨_, d0, d1, d2, d3, d4, d5, d6, d7⟩ := BP.out
      refine value_ (w1 := w') (v := .agg #[.int .i64 p.kind, .slice A1 p.keys.length c1, .slice A2 p.vals.length c2, .slice A3 p.kids.length c3, .int .i64 p.root, .int .i64 p.next, .int .i64 p.size, .int .i64 p.idle]) (by rfl) rfl ?_ ?_
      · go_simp
        (try simp only [i64_w])
        try rfl
      refine hK.out _ _ ⟨(by rw [ha.out]; exact putSel_upk 0 hb_ rfl rfl rfl), Q_HB, Q_BP, Q_HP, Q_PX⟩
    refine steps_cons ?_ ?_
    · rintro b a w' ⟨ha, Q_HB, Q_BP, Q_HP, Q_PX⟩ hb_ hon hoff
      refine ⟨_, rfl, fun K hK => ?_⟩
      have e23 : a.tmps[23]? = some (.agg #[.int .i64 p.kind, .slice A1 p.keys.length c1, .slice A2 p.vals.length c2, .slice A3 p.kids.length c3, .int .i64 p.root, .int .i64 p.next, .int .i64 p.size, .int .i64 p.idle]) := by rw [ha]; exact putSel_on (e := (0, 23, .agg #[.int .i64 p.kind, .slice A1 p.keys.length c1, .slice A2 p.vals.length c2, .slice A3 p.kids.length c3, .int .i64 p.root, .int .i64 p.next, .int .i64 p.size, .int .i64 p.idle])) 0 rfl rfl (hon 0 (by kernel_rfl)) rfl
      replace ha := Aside0.mk ha
      have HB := Aside0.mk Q_HB
      have BP := Aside0.mk Q_BP
      have HP := Aside0.mk Q_HP
      have PX := Aside0.mk Q_PX
      refine goes_ Try.func17 (by kernel_rfl) rfl #[.agg #[.int .i64 p.kind, .slice A1 p.keys.length c1, .slice A2 p.vals.length c2, .slice A3 p.kids.length c3, .int .i64 p.root, .int .i64 p.next, .int .i64 p.size, .int .i64 p.idle]] (by rfl) rfl rfl (by first | (simp only [List.map_toArray, List.map_cons, List.map_nil, Act.eval, Array.getD_eq_getD_getElem?, Option.getD_some, e23]; done) | (simp only [List.map_toArray, List.map_cons, List.map_nil, Act.eval, Array.getD_eq_getD_getElem?, Option.getD_some, e23]; rfl)) ?_
      refine (RG.out _ HP.out).mono ?_
      rintro e_ wn_ ⟨rfl, hB_⟩
      refine ⟨_, rfl, ?_⟩
      refine hK.out _ _ ⟨(by rw [ha.out]; exact putSel_upk 1 hb_ rfl rfl rfl), (below_step HB.out hB_), (BP.out.below hB_), (HP.out.below hB_), (PX.out.step hB_)⟩
    refine steps_cons ?_ ?_
    · rintro b a w' ⟨ha, Q_HB, Q_BP, Q_HP, Q_PX⟩ hb_ hon hoff
      refine ⟨_, rfl, fun K hK => ?_⟩
      have e3 : a.tmps[3]? = some (.pointer (some ⟨w.heap.size, 0, none⟩)) := by rw [ha]; exact (putSel_off rfl).trans rfl
      replace ha := Aside0.mk ha
      have HB := Aside0.mk Q_HB
      have BP := Aside0.mk Q_BP
      have HP := Aside0.mk Q_HP
      have PX := Aside0.mk Q_PX
      obtain ⟨_, d0, d1, d2, d3, d4, d5, d6, d7⟩ := BP.out
      refine value_ (w1 := w') (v := .agg #[.int .i64 p.kind, .slice A1 p.keys.length c1, .slice A2 p.vals.length c2, .slice A3 p.kids.length c3, .int .i64 p.root, .int .i64 p.next, .int .i64 p.size, .int .i64 p.idle]) (by rfl) rfl ?_ ?_
      · go_simp
        (try simp only [i64_w])
        try rfl
      refine hK.out _ _ ⟨(by rw [ha.out]; exact putSel_upk 2 hb_ rfl rfl rfl), Q_HB, Q_BP, Q_HP, Q_PX⟩
    refine steps_cons ?_ ?_
    · rintro b a w' ⟨ha, Q_HB, Q_BP, Q_HP, Q_PX⟩ hb_ hon hoff
      refine ⟨_, rfl, fun K hK => ?_⟩
      have e25 : a.tmps[25]? = some (.agg #[.int .i64 p.kind, .slice A1 p.keys.length c1, .slice A2 p.vals.length c2, .slice A3 p.kids.length c3, .int .i64 p.root, .int .i64 p.next, .int .i64 p.size, .int .i64 p.idle]) := by rw [ha]; exact putSel_on (e := (2, 25, .agg #[.int .i64 p.kind, .slice A1 p.keys.length c1, .slice A2 p.vals.length c2, .slice A3 p.kids.length c3, .int .i64 p.root, .int .i64 p.next, .int .i64 p.size, .int .i64 p.idle])) 2 rfl rfl (hon 2 (by kernel_rfl)) rfl
      replace ha := Aside0.mk ha
      have HB := Aside0.mk Q_HB
      have BP := Aside0.mk Q_BP
      have HP := Aside0.mk Q_HP
      have PX := Aside0.mk Q_PX
      refine goes_ Try.func21 (by kernel_rfl) rfl #[.agg #[.int .i64 p.kind, .slice A1 p.keys.length c1, .slice A2 p.vals.length c2, .slice A3 p.kids.length c3, .int .i64 p.root, .int .i64 p.next, .int .i64 p.size, .int .i64 p.idle]] (by rfl) rfl rfl (by first | (simp only [List.map_toArray, List.map_cons, List.map_nil, Act.eval, Array.getD_eq_getD_getElem?, Option.getD_some, e25]; done) | (simp only [List.map_toArray, List.map_cons, List.map_nil, Act.eval, Array.getD_eq_getD_getElem?, Option.getD_some, e25]; rfl)) ?_
      refine (RT.out _ HP.out).mono ?_
      rintro e_ wn_ ⟨rfl, hB_⟩
      refine ⟨_, rfl, ?_⟩
      refine hK.out _ _ ⟨(by rw [ha.out]; exact putSel_upk 3 hb_ rfl rfl rfl), (below_step HB.out hB_), (BP.out.below hB_), (HP.out.below hB_), (PX.out.step hB_)⟩
    refine steps_cons ?_ ?_
    · rintro b a w' ⟨ha, Q_HB, Q_BP, Q_HP, Q_PX⟩ hb_ hon hoff
      refine ⟨_, rfl, fun K hK => ?_⟩
      have e24 : a.tmps[24]? = some (.bool true) := by rw [ha]; exact putSel_on (e := (1, 24, .bool true)) 1 rfl rfl (hon 1 (by kernel_rfl)) rfl
      have e26 : a.tmps[26]? = some (.bool true) := by rw [ha]; exact putSel_on (e := (3, 26, .bool true)) 3 rfl rfl (hon 3 (by kernel_rfl)) rfl
      replace ha := Aside0.mk ha
      have HB := Aside0.mk Q_HB
      have BP := Aside0.mk Q_BP
      have HP := Aside0.mk Q_HP
      have PX := Aside0.mk Q_PX
      refine value_ (w1 := w') (v := .bool false) (by rfl) rfl ?_ ?_
      · go_simp
        (try simp only [i64_w])
        try rfl
      refine hK.out _ _ ⟨(by rw [ha.out]; exact putSel_upk 4 hb_ rfl rfl rfl), Q_HB, Q_BP, Q_HP, Q_PX⟩
    exact steps_nil
  rintro b a w' hall ⟨ha, Q_HB, Q_BP, Q_HP, Q_PX⟩
  clear BP HB HP PX
  have hb0_ := hall 0 (by kernel_rfl)
  have hb1_ := hall 1 (by kernel_rfl)
  have hb2_ := hall 2 (by kernel_rfl)
  have hb3_ := hall 3 (by kernel_rfl)
  have hb4_ := hall 4 (by kernel_rfl)
  subst ha
  simp only [putSel, hb0_, hb1_, hb2_, hb3_, hb4_, if_true, Act.put, List.setIfInBounds_toArray, List.set_cons_zero, List.set_cons_succ]
  have HB := Aside0.mk Q_HB
  clear Q_HB
  have BP := Aside0.mk Q_BP
  clear Q_BP
  have HP := Aside0.mk Q_HP
  clear Q_HP
  have PX := Aside0.mk Q_PX
  clear Q_PX
  clear hall hb0_ hb1_ hb2_ hb3_ hb4_
  have HBa := Aside0.mk HB.out
  have BPa := Aside0.mk BP.out
  have HPa := Aside0.mk HP.out
  have PXa := Aside0.mk PX.out
  clear HB BP HP PX
  obtain ⟨_, d0, d1, d2, d3, d4, d5, d6, d7⟩ := BPa.out
  go_wp2_with fail
  refine (RT.out _ HPa.out).mono ?_
  rintro e w5 ⟨rfl, hb4⟩
  have HB := Aside0.mk (below_step HBa.out hb4)
  have BP := Aside0.mk (BPa.out.below hb4)
  have HP := Aside0.mk (HPa.out.below hb4)
  have PX := Aside0.mk (PXa.out.step hb4)
  clear hb4 d0 d1 d2 d3 d4 d5 d6 d7 HBa BPa HPa PXa RG RT
  go_upto_region 10 with fail
  refine start_ (n := 16) (S := fun w' => True) (ds := []) #[false, false, false, false, false, false, false, false, false, false, false, false, false, false, false, false] (by kernel_rfl) rfl rfl trivial (fun hHeld => ?_)
  refine with_tabW pgc10.tab10 pgc10.bits10 (fun HT_ HW_ => ?_)
  have n0 := Aside0.mk (below_step HB.out (below_drew (Below.refl _ _)))
  have n1 := Aside0.mk (BP.out.below (below_drew (Below.refl _ _)))
  have n2 := Aside0.mk (HP.out.below (below_drew (Below.refl _ _)))
  have n3 := Aside0.mk (PX.out.step (below_drew (Below.refl _ _)))
  clear HB BP HP PX
  generalize w5.drew = wd at n0 n1 n2 n3 hHeld ⊢
  have HB := n0
  have BP := n1
  have HP := n2
  have PX := n3
  clear n0 n1 n2 n3 hHeld
  refine inv_at [0, 1, 2, 3, 4, 5, 6, 7, 8, 9, 10, 11, 12, 13, 14, 15] (fun a0_ b a w' => ∃ (A7 : Option Addr) (c7 : Nat) (m7_ : Value), a = putSel a0_ b [(0, 38, .int .i64 0), (1, 39, .bool false), (2, 40, .bool false), (3, 41, .slice X lx.length cx), (4, 42, .string (strOfNums lx)), (5, 43, .agg #[.int .i64 p.kind, .slice A1 p.keys.length c1, .slice A2 p.vals.length c2, .slice A3 p.kids.length c3, .int .i64 p.root, .int .i64 p.next, .int .i64 p.size, .int .i64 p.idle]), (6, 44, .int .u64 (na : Int)), (7, 45, m7_), (8, 46, .string (strOfNums lx)), (9, 47, .bool false), (10, 48, .bool false), (11, 49, .bool false), (12, 50, .slice X lx.length cx), (13, 51, .int .i64 (lx.length : Int)), (14, 52, .bool false), (15, 53, .bool false)] ∧ (Below w.heap.size w w') ∧ (PBox p A1 c1 A2 c2 A3 c3 w.heap.size w') ∧ (PgR w' p A1 c1 A2 c2 A3 c3) ∧ (Cs w' X cx lx) ∧ (b 7 = true → Cs w' A7 c7 lx) ∧ (b 7 = true → (m7_ : Value) = .slice A7 lx.length c7)) HT_.out HW_.out (by kernel_rfl) (by kernel_rfl) ?_ ?_ ?_
  · exact ⟨none, 0, .bool false, by simp only [putSel, Bool.false_eq_true, if_false], HB.out, BP.out, HP.out, PX.out, fun h_ => absurd h_ (by decide), fun h_ => absurd h_ (by decide)⟩
  · skip
    clear BP HB HP PX
    refine steps_cons ?_ ?_
    · rintro b a w' ⟨A7, c7, m7_, ha, Q_HB, Q_BP, Q_HP, Q_PX, Q_P7, Q_X7_⟩ hb_ hon hoff
      refine ⟨_, rfl, fun K hK => ?_⟩
      have e8 : a.tmps[8]? = some (.int .i64 0) := by rw [ha]; exact (putSel_off rfl).trans rfl
      replace ha := Aside0.mk ha
      have HB := Aside0.mk Q_HB
      have BP := Aside0.mk Q_BP
      have HP := Aside0.mk Q_HP
      have PX := Aside0.mk Q_PX
      refine value_ (w1 := w') (v := .int .i64 0) (by rfl) rfl ?_ ?_
      · go_simp
        (try simp only [i64_w])
        try rfl
      refine hK.out _ _ ⟨A7, c7, m7_, (by rw [ha.out]; exact putSel_upk 0 hb_ rfl rfl rfl), Q_HB, Q_BP, Q_HP, Q_PX, fun h0_ => absurd ((hoff 7 (by kernel_rfl)).symm.trans h0_) (by decide), fun h0_ => absurd ((hoff 7 (by kernel_rfl)).symm.trans h0_) (by decide)⟩
    refine steps_cons ?_ ?_
    · rintro b a w' ⟨A7, c7, m7_, ha, Q_HB, Q_BP, Q_HP, Q_PX, Q_P7, Q_X7_⟩ hb_ hon hoff
      refine ⟨_, rfl, fun K hK => ?_⟩
      have e38 : a.tmps[38]? = some (.int .i64 0) := by rw [ha]; exact putSel_on (e := (0, 38, .int .i64 0)) 0 rfl rfl (hon 0 (by kernel_rfl)) rfl
      replace ha := Aside0.mk ha
      have HB := Aside0.mk Q_HB
      have BP := Aside0.mk Q_BP
      have HP := Aside0.mk Q_HP
      have PX := Aside0.mk Q_PX
      refine value_ (w1 := w') (v := .bool false) (by rfl) rfl ?_ ?_
      · go_simp
        (try simp only [i64_w])
        try rfl
      refine hK.out _ _ ⟨A7, c7, m7_, (by rw [ha.out]; exact putSel_upk 1 hb_ rfl rfl rfl), Q_HB, Q_BP, Q_HP, Q_PX, fun h0_ => absurd ((hoff 7 (by kernel_rfl)).symm.trans h0_) (by decide), fun h0_ => absurd ((hoff 7 (by kernel_rfl)).symm.trans h0_) (by decide)⟩
    refine steps_cons ?_ ?_
    · rintro b a w' ⟨A7, c7, m7_, ha, Q_HB, Q_BP, Q_HP, Q_PX, Q_P7, Q_X7_⟩ hb_ hon hoff
      refine ⟨_, rfl, fun K hK => ?_⟩
      have e39 : a.tmps[39]? = some (.bool false) := by rw [ha]; exact putSel_on (e := (1, 39, .bool false)) 1 rfl rfl (hon 1 (by kernel_rfl)) rfl
      replace ha := Aside0.mk ha
      have HB := Aside0.mk Q_HB
      have BP := Aside0.mk Q_BP
      have HP := Aside0.mk Q_HP
      have PX := Aside0.mk Q_PX
      refine value_ (w1 := w') (v := .bool false) (by rfl) rfl ?_ ?_
      · go_simp
        (try simp only [i64_w])
        try rfl
      refine hK.out _ _ ⟨A7, c7, m7_, (by rw [ha.out]; exact putSel_upk 2 hb_ rfl rfl rfl), Q_HB, Q_BP, Q_HP, Q_PX, fun h0_ => absurd ((hoff 7 (by kernel_rfl)).symm.trans h0_) (by decide), fun h0_ => absurd ((hoff 7 (by kernel_rfl)).symm.trans h0_) (by decide)⟩
    refine steps_cons ?_ ?_
    · rintro b a w' ⟨A7, c7, m7_, ha, Q_HB, Q_BP, Q_HP, Q_PX, Q_P7, Q_X7_⟩ hb_ hon hoff
      refine ⟨_, rfl, fun K hK => ?_⟩
      have e7 : a.tmps[7]? = some (.slice X lx.length cx) := by rw [ha]; exact (putSel_off rfl).trans rfl
      have e40 : a.tmps[40]? = some (.bool false) := by rw [ha]; exact putSel_on (e := (2, 40, .bool false)) 2 rfl rfl (hon 2 (by kernel_rfl)) rfl
      replace ha := Aside0.mk ha
      have HB := Aside0.mk Q_HB
      have BP := Aside0.mk Q_BP
      have HP := Aside0.mk Q_HP
      have PX := Aside0.mk Q_PX
      refine value_ (w1 := w') (v := .slice X lx.length cx) (wanted_on rfl rfl rfl (e40.trans (by first | rfl | (simp [*]; done)))) rfl ?_ ?_
      · go_simp
        (try simp only [i64_w])
        try rfl
      refine hK.out _ _ ⟨A7, c7, m7_, (by rw [ha.out]; exact putSel_upk 3 hb_ rfl rfl rfl), Q_HB, Q_BP, Q_HP, Q_PX, Q_P7, Q_X7_⟩
    refine steps_cons ?_ ?_
    · rintro b a w' ⟨A7, c7, m7_, ha, Q_HB, Q_BP, Q_HP, Q_PX, Q_P7, Q_X7_⟩ hb_ hon hoff
      refine ⟨_, rfl, fun K hK => ?_⟩
      have e41 : a.tmps[41]? = some (.slice X lx.length cx) := by rw [ha]; exact putSel_on (e := (3, 41, .slice X lx.length cx)) 3 rfl rfl (hon 3 (by kernel_rfl)) rfl
      have e40 : a.tmps[40]? = some (.bool false) := by rw [ha]; exact putSel_on (e := (2, 40, .bool false)) 2 rfl rfl (hon 2 (by kernel_rfl)) rfl
      replace ha := Aside0.mk ha
      have HB := Aside0.mk Q_HB
      have BP := Aside0.mk Q_BP
      have HP := Aside0.mk Q_HP
      have PX := Aside0.mk Q_PX
      have hcv_ := PX.out.conv (Below.refl _ _)
      refine value_ (w1 := w') (v := .string (strOfNums lx)) (wanted_on rfl rfl rfl (e40.trans (by first | rfl | (simp [*]; done)))) rfl ?_ ?_
      · go_simp
        (try simp only [i64_w])
        try rfl
      refine hK.out _ _ ⟨A7, c7, m7_, (by rw [ha.out]; exact putSel_upk 4 hb_ rfl rfl rfl), Q_HB, Q_BP, Q_HP, Q_PX, Q_P7, Q_X7_⟩
    refine steps_cons ?_ ?_
    · rintro b a w' ⟨A7, c7, m7_, ha, Q_HB, Q_BP, Q_HP, Q_PX, Q_P7, Q_X7_⟩ hb_ hon hoff
      refine ⟨_, rfl, fun K hK => ?_⟩
      have e3 : a.tmps[3]? = some (.pointer (some ⟨w.heap.size, 0, none⟩)) := by rw [ha]; exact (putSel_off rfl).trans rfl
      have e40 : a.tmps[40]? = some (.bool false) := by rw [ha]; exact putSel_on (e := (2, 40, .bool false)) 2 rfl rfl (hon 2 (by kernel_rfl)) rfl
      replace ha := Aside0.mk ha
      have HB := Aside0.mk Q_HB
      have BP := Aside0.mk Q_BP
      have HP := Aside0.mk Q_HP
      have PX := Aside0.mk Q_PX
      obtain ⟨_, d0, d1, d2, d3, d4, d5, d6, d7⟩ := BP.out
      refine value_ (w1 := w') (v := .agg #[.int .i64 p.kind, .slice A1 p.keys.length c1, .slice A2 p.vals.length c2, .slice A3 p.kids.length c3, .int .i64 p.root, .int .i64 p.next, .int .i64 p.size, .int .i64 p.idle]) (wanted_on rfl rfl rfl (e40.trans (by first | rfl | (simp [*]; done)))) rfl ?_ ?_
      · go_simp
        (try simp only [i64_w])
        try rfl
      refine hK.out _ _ ⟨A7, c7, m7_, (by rw [ha.out]; exact putSel_upk 5 hb_ rfl rfl rfl), Q_HB, Q_BP, Q_HP, Q_PX, fun h0_ => absurd ((hoff 7 (by kernel_rfl)).symm.trans h0_) (by decide), fun h0_ => absurd ((hoff 7 (by kernel_rfl)).symm.trans h0_) (by decide)⟩
    refine steps_cons ?_ ?_
    · rintro b a w' ⟨A7, c7, m7_, ha, Q_HB, Q_BP, Q_HP, Q_PX, Q_P7, Q_X7_⟩ hb_ hon hoff
      refine ⟨_, rfl, fun K hK => ?_⟩
      have e1 : a.tmps[1]? = some (.int .u64 (na : Int)) := by rw [ha]; exact (putSel_off rfl).trans rfl
      have e40 : a.tmps[40]? = some (.bool false) := by rw [ha]; exact putSel_on (e := (2, 40, .bool false)) 2 rfl rfl (hon 2 (by kernel_rfl)) rfl
      replace ha := Aside0.mk ha
      have HB := Aside0.mk Q_HB
      have BP := Aside0.mk Q_BP
      have HP := Aside0.mk Q_HP
      have PX := Aside0.mk Q_PX
      refine value_ (w1 := w') (v := .int .u64 (na : Int)) (wanted_on rfl rfl rfl (e40.trans (by first | rfl | (simp [*]; done)))) rfl ?_ ?_
      · go_simp
        (try simp only [i64_w])
        try rfl
      refine hK.out _ _ ⟨A7, c7, m7_, (by rw [ha.out]; exact putSel_upk 6 hb_ rfl rfl rfl), Q_HB, Q_BP, Q_HP, Q_PX, fun h0_ => absurd ((hoff 7 (by kernel_rfl)).symm.trans h0_) (by decide), fun h0_ => absurd ((hoff 7 (by kernel_rfl)).symm.trans h0_) (by decide)⟩
    refine steps_cons ?_ ?_
    · rintro b a w' ⟨A7, c7, m7_, ha, Q_HB, Q_BP, Q_HP, Q_PX, Q_P7, Q_X7_⟩ hb_ hon hoff
      refine ⟨_, rfl, fun K hK => ?_⟩
      have e43 : a.tmps[43]? = some (.agg #[.int .i64 p.kind, .slice A1 p.keys.length c1, .slice A2 p.vals.length c2, .slice A3 p.kids.length c3, .int .i64 p.root, .int .i64 p.next, .int .i64 p.size, .int .i64 p.idle]) := by rw [ha]; exact putSel_on (e := (5, 43, .agg #[.int .i64 p.kind, .slice A1 p.keys.length c1, .slice A2 p.vals.length c2, .slice A3 p.kids.length c3, .int .i64 p.root, .int .i64 p.next, .int .i64 p.size, .int .i64 p.idle])) 5 rfl rfl (hon 5 (by kernel_rfl)) rfl
      have e44 : a.tmps[44]? = some (.int .u64 (na : Int)) := by rw [ha]; exact putSel_on (e := (6, 44, .int .u64 (na : Int))) 6 rfl rfl (hon 6 (by kernel_rfl)) rfl
      have e40 : a.tmps[40]? = some (.bool false) := by rw [ha]; exact putSel_on (e := (2, 40, .bool false)) 2 rfl rfl (hon 2 (by kernel_rfl)) rfl
      replace ha := Aside0.mk ha
      have HB := Aside0.mk Q_HB
      have BP := Aside0.mk Q_BP
      have HP := Aside0.mk Q_HP
      have PX := Aside0.mk Q_PX
      refine goes_ Try.func22 (by kernel_rfl) rfl #[.agg #[.int .i64 p.kind, .slice A1 p.keys.length c1, .slice A2 p.vals.length c2, .slice A3 p.kids.length c3, .int .i64 p.root, .int .i64 p.next, .int .i64 p.size, .int .i64 p.idle], .int .u64 (na : Int)] (wanted_on rfl rfl rfl (e40.trans (by first | rfl | (simp [*]; done)))) rfl rfl (by first | (simp only [List.map_toArray, List.map_cons, List.map_nil, Act.eval, Array.getD_eq_getD_getElem?, Option.getD_some, e43, e44, e40]; done) | (simp only [List.map_toArray, List.map_cons, List.map_nil, Act.eval, Array.getD_eq_getD_getElem?, Option.getD_some, e43, e44, e40]; rfl)) ?_
      refine (BY.out _ HP.out).mono ?_
      rintro e_ wn_ ⟨An_, cn_, rfl, hp_, hB_⟩
      refine ⟨_, rfl, ?_⟩
      refine hK.out _ _ ⟨An_, cn_, (.slice An_ lx.length cn_), (by rw [ha.out]; exact putSel_upk 7 hb_ rfl rfl rfl), (below_step HB.out hB_), (BP.out.below hB_), (HP.out.below hB_), (PX.out.step hB_), fun _ => hp_, fun _ => rfl⟩
    refine steps_cons ?_ ?_
    · rintro b a w' ⟨A7, c7, m7_, ha, Q_HB, Q_BP, Q_HP, Q_PX, Q_P7, Q_X7_⟩ hb_ hon hoff
      refine ⟨_, rfl, fun K hK => ?_⟩
      have e45 : a.tmps[45]? = some (m7_) := by rw [ha]; exact putSel_on (e := (7, 45, m7_)) 7 rfl rfl (hon 7 (by kernel_rfl)) rfl
      rw [Q_X7_ (hon 7 (by kernel_rfl))] at e45
      have e40 : a.tmps[40]? = some (.bool false) := by rw [ha]; exact putSel_on (e := (2, 40, .bool false)) 2 rfl rfl (hon 2 (by kernel_rfl)) rfl
      replace ha := Aside0.mk ha
      have HB := Aside0.mk Q_HB
      have BP := Aside0.mk Q_BP
      have HP := Aside0.mk Q_HP
      have PX := Aside0.mk Q_PX
      have P7 := Aside0.mk (Q_P7 (hon 7 (by kernel_rfl)))
      have hcv_ := P7.out.conv (Below.refl _ _)
      refine value_ (w1 := w') (v := .string (strOfNums lx)) (wanted_on rfl rfl rfl (e40.trans (by first | rfl | (simp [*]; done)))) rfl ?_ ?_
      · go_simp
        (try simp only [i64_w])
        try rfl
      refine hK.out _ _ ⟨A7, c7, m7_, (by rw [ha.out]; exact putSel_upk 8 hb_ rfl rfl rfl), Q_HB, Q_BP, Q_HP, Q_PX, Q_P7, Q_X7_⟩
    refine steps_cons ?_ ?_
    · rintro b a w' ⟨A7, c7, m7_, ha, Q_HB, Q_BP, Q_HP, Q_PX, Q_P7, Q_X7_⟩ hb_ hon hoff
      refine ⟨_, rfl, fun K hK => ?_⟩
      have e42 : a.tmps[42]? = some (.string (strOfNums lx)) := by rw [ha]; exact putSel_on (e := (4, 42, .string (strOfNums lx))) 4 rfl rfl (hon 4 (by kernel_rfl)) rfl
      have e46 : a.tmps[46]? = some (.string (strOfNums lx)) := by rw [ha]; exact putSel_on (e := (8, 46, .string (strOfNums lx))) 8 rfl rfl (hon 8 (by kernel_rfl)) rfl
      have e40 : a.tmps[40]? = some (.bool false) := by rw [ha]; exact putSel_on (e := (2, 40, .bool false)) 2 rfl rfl (hon 2 (by kernel_rfl)) rfl
      replace ha := Aside0.mk ha
      have HB := Aside0.mk Q_HB
      have BP := Aside0.mk Q_BP
      have HP := Aside0.mk Q_HP
      have PX := Aside0.mk Q_PX
      have P7 := Aside0.mk (Q_P7 (hon 7 (by kernel_rfl)))
      refine value_ (w1 := w') (v := .bool false) (wanted_on rfl rfl rfl (e40.trans (by first | rfl | (simp [*]; done)))) rfl ?_ ?_
      · go_simp
        (try simp only [i64_w])
        try rfl
      refine hK.out _ _ ⟨A7, c7, m7_, (by rw [ha.out]; exact putSel_upk 9 hb_ rfl rfl rfl), Q_HB, Q_BP, Q_HP, Q_PX, Q_P7, Q_X7_⟩
    refine steps_cons ?_ ?_
    · rintro b a w' ⟨A7, c7, m7_, ha, Q_HB, Q_BP, Q_HP, Q_PX, Q_P7, Q_X7_⟩ hb_ hon hoff
      refine ⟨_, rfl, fun K hK => ?_⟩
      have e40 : a.tmps[40]? = some (.bool false) := by rw [ha]; exact putSel_on (e := (2, 40, .bool false)) 2 rfl rfl (hon 2 (by kernel_rfl)) rfl
      have e47 : a.tmps[47]? = some (.bool false) := by rw [ha]; exact putSel_on (e := (9, 47, .bool false)) 9 rfl rfl (hon 9 (by kernel_rfl)) rfl
      replace ha := Aside0.mk ha
      have HB := Aside0.mk Q_HB
      have BP := Aside0.mk Q_BP
      have HP := Aside0.mk Q_HP
      have PX := Aside0.mk Q_PX
      have P7 := Aside0.mk (Q_P7 (hon 7 (by kernel_rfl)))
      refine value_ (w1 := w') (v := .bool false) (by rfl) rfl ?_ ?_
      · go_simp
        (try simp only [i64_w])
        try rfl
      refine hK.out _ _ ⟨A7, c7, m7_, (by rw [ha.out]; exact putSel_upk 10 hb_ rfl rfl rfl), Q_HB, Q_BP, Q_HP, Q_PX, Q_P7, Q_X7_⟩
    refine steps_cons ?_ ?_
    · rintro b a w' ⟨A7, c7, m7_, ha, Q_HB, Q_BP, Q_HP, Q_PX, Q_P7, Q_X7_⟩ hb_ hon hoff
      refine ⟨_, rfl, fun K hK => ?_⟩
      have e48 : a.tmps[48]? = some (.bool false) := by rw [ha]; exact putSel_on (e := (10, 48, .bool false)) 10 rfl rfl (hon 10 (by kernel_rfl)) rfl
      replace ha := Aside0.mk ha
      have HB := Aside0.mk Q_HB
      have BP := Aside0.mk Q_BP
      have HP := Aside0.mk Q_HP
      have PX := Aside0.mk Q_PX
      have P7 := Aside0.mk (Q_P7 (hon 7 (by kernel_rfl)))
      refine value_ (w1 := w') (v := .bool false) (by rfl) rfl ?_ ?_
      · go_simp
        (try simp only [i64_w])
        try rfl
      refine hK.out _ _ ⟨A7, c7, m7_, (by rw [ha.out]; exact putSel_upk 11 hb_ rfl rfl rfl), Q_HB, Q_BP, Q_HP, Q_PX, Q_P7, Q_X7_⟩
    refine steps_cons ?_ ?_
    · rintro b a w' ⟨A7, c7, m7_, ha, Q_HB, Q_BP, Q_HP, Q_PX, Q_P7, Q_X7_⟩ hb_ hon hoff
      refine ⟨_, rfl, fun K hK => ?_⟩
      have e7 : a.tmps[7]? = some (.slice X lx.length cx) := by rw [ha]; exact (putSel_off rfl).trans rfl
      have e49 : a.tmps[49]? = some (.bool false) := by rw [ha]; exact putSel_on (e := (11, 49, .bool false)) 11 rfl rfl (hon 11 (by kernel_rfl)) rfl
      replace ha := Aside0.mk ha
      have HB := Aside0.mk Q_HB
      have BP := Aside0.mk Q_BP
      have HP := Aside0.mk Q_HP
      have PX := Aside0.mk Q_PX
      have P7 := Aside0.mk (Q_P7 (hon 7 (by kernel_rfl)))
      refine value_ (w1 := w') (v := .slice X lx.length cx) (wanted_on rfl rfl rfl (e49.trans (by first | rfl | (simp [*]; done)))) rfl ?_ ?_
      · go_simp
        (try simp only [i64_w])
        try rfl
      refine hK.out _ _ ⟨A7, c7, m7_, (by rw [ha.out]; exact putSel_upk 12 hb_ rfl rfl rfl), Q_HB, Q_BP, Q_HP, Q_PX, Q_P7, Q_X7_⟩
    refine steps_cons ?_ ?_
    · rintro b a w' ⟨A7, c7, m7_, ha, Q_HB, Q_BP, Q_HP, Q_PX, Q_P7, Q_X7_⟩ hb_ hon hoff
      refine ⟨_, rfl, fun K hK => ?_⟩
      have e50 : a.tmps[50]? = some (.slice X lx.length cx) := by rw [ha]; exact putSel_on (e := (12, 50, .slice X lx.length cx)) 12 rfl rfl (hon 12 (by kernel_rfl)) rfl
      have e49 : a.tmps[49]? = some (.bool false) := by rw [ha]; exact putSel_on (e := (11, 49, .bool false)) 11 rfl rfl (hon 11 (by kernel_rfl)) rfl
      replace ha := Aside0.mk ha
      have HB := Aside0.mk Q_HB
      have BP := Aside0.mk Q_BP
      have HP := Aside0.mk Q_HP
      have PX := Aside0.mk Q_PX
      have P7 := Aside0.mk (Q_P7 (hon 7 (by kernel_rfl)))
      refine value_ (w1 := w') (v := .int .i64 (lx.length : Int)) (wanted_on rfl rfl rfl (e49.trans (by first | rfl | (simp [*]; done)))) rfl ?_ ?_
      · go_simp
        (try simp only [i64_w])
        try rfl
      refine hK.out _ _ ⟨A7, c7, m7_, (by rw [ha.out]; exact putSel_upk 13 hb_ rfl rfl rfl), Q_HB, Q_BP, Q_HP, Q_PX, Q_P7, Q_X7_⟩
    refine steps_cons ?_ ?_
    · rintro b a w' ⟨A7, c7, m7_, ha, Q_HB, Q_BP, Q_HP, Q_PX, Q_P7, Q_X7_⟩ hb_ hon hoff
      refine ⟨_, rfl, fun K hK => ?_⟩
      have e51 : a.tmps[51]? = some (.int .i64 (lx.length : Int)) := by rw [ha]; exact putSel_on (e := (13, 51, .int .i64 (lx.length : Int))) 13 rfl rfl (hon 13 (by kernel_rfl)) rfl
      have e49 : a.tmps[49]? = some (.bool false) := by rw [ha]; exact putSel_on (e := (11, 49, .bool false)) 11 rfl rfl (hon 11 (by kernel_rfl)) rfl
      replace ha := Aside0.mk ha
      have HB := Aside0.mk Q_HB
      have BP := Aside0.mk Q_BP
      have HP := Aside0.mk Q_HP
      have PX := Aside0.mk Q_PX
      have P7 := Aside0.mk (Q_P7 (hon 7 (by kernel_rfl)))
      refine value_ (w1 := w') (v := .bool false) (wanted_on rfl rfl rfl (e49.trans (by first | rfl | (simp [*]; done)))) rfl ?_ ?_
      · go_simp
        (try simp only [i64_w])
        try rfl
      refine hK.out _ _ ⟨A7, c7, m7_, (by rw [ha.out]; exact putSel_upk 14 hb_ rfl rfl rfl), Q_HB, Q_BP, Q_HP, Q_PX, Q_P7, Q_X7_⟩
    refine steps_cons ?_ ?_
    · rintro b a w' ⟨A7, c7, m7_, ha, Q_HB, Q_BP, Q_HP, Q_PX, Q_P7, Q_X7_⟩ hb_ hon hoff
      refine ⟨_, rfl, fun K hK => ?_⟩
      have e49 : a.tmps[49]? = some (.bool false) := by rw [ha]; exact putSel_on (e := (11, 49, .bool false)) 11 rfl rfl (hon 11 (by kernel_rfl)) rfl
      have e52 : a.tmps[52]? = some (.bool false) := by rw [ha]; exact putSel_on (e := (14, 52, .bool false)) 14 rfl rfl (hon 14 (by kernel_rfl)) rfl
      replace ha := Aside0.mk ha
      have HB := Aside0.mk Q_HB
      have BP := Aside0.mk Q_BP
      have HP := Aside0.mk Q_HP
      have PX := Aside0.mk Q_PX
      have P7 := Aside0.mk (Q_P7 (hon 7 (by kernel_rfl)))
      refine value_ (w1 := w') (v := .bool false) (by rfl) rfl ?_ ?_
      · go_simp
        (try simp only [i64_w])
        try rfl
      refine hK.out _ _ ⟨A7, c7, m7_, (by rw [ha.out]; exact putSel_upk 15 hb_ rfl rfl rfl), Q_HB, Q_BP, Q_HP, Q_PX, Q_P7, Q_X7_⟩
    exact steps_nil
  rintro b a w' hall ⟨A7, c7, m7_, ha, Q_HB, Q_BP, Q_HP, Q_PX, Q_P7, Q_X7_⟩
  clear BP HB HP PX
  have hb0_ := hall 0 (by kernel_rfl)
  have hb1_ := hall 1 (by kernel_rfl)
  have hb2_ := hall 2 (by kernel_rfl)
  have hb3_ := hall 3 (by kernel_rfl)
  have hb4_ := hall 4 (by kernel_rfl)
  have hb5_ := hall 5 (by kernel_rfl)
  have hb6_ := hall 6 (by kernel_rfl)
  have hb7_ := hall 7 (by kernel_rfl)
  have hb8_ := hall 8 (by kernel_rfl)
  have hb9_ := hall 9 (by kernel_rfl)
  have hb10_ := hall 10 (by kernel_rfl)
  have hb11_ := hall 11 (by kernel_rfl)
  have hb12_ := hall 12 (by kernel_rfl)
  have hb13_ := hall 13 (by kernel_rfl)
  have hb14_ := hall 14 (by kernel_rfl)
  have hb15_ := hall 15 (by kernel_rfl)
  subst ha
  obtain rfl := Q_X7_ hb7_
  simp only [putSel, hb0_, hb1_, hb2_, hb3_, hb4_, hb5_, hb6_, hb7_, hb8_, hb9_, hb10_, hb11_, hb12_, hb13_, hb14_, hb15_, if_true, Act.put, List.setIfInBounds_toArray, List.set_cons_zero, List.set_cons_succ]
  have HB := Aside0.mk Q_HB
  clear Q_HB
  have BP := Aside0.mk Q_BP
  clear Q_BP
  have HP := Aside0.mk Q_HP
  clear Q_HP
  have PX := Aside0.mk Q_PX
  clear Q_PX
  have P7 := Aside0.mk (Q_P7 hb7_)
  clear Q_P7
  clear hall hb0_ hb1_ hb2_ hb3_ hb4_ hb5_ hb6_ hb7_ hb8_ hb9_ hb10_ hb11_ hb12_ hb13_ hb14_ hb15_
  have HB6 := Aside0.mk HB.out
  have BP6 := Aside0.mk BP.out
  have HP6 := Aside0.mk HP.out
  have PX6 := Aside0.mk PX.out
  clear HB BP HP PX BY P7
  obtain ⟨L, hL⟩ : ∃ L, L = lx ++ List.replicate m 0 := ⟨_, rfl⟩
  have HDm := HD.out m hmm.out
  rw [← hL] at HDm
  have HDL := Aside0.mk HDm
  have HLe := Aside0.mk hL
  clear HDm HD hL
  go_wp2_with (first
    | ((with_reducible refine gate_builtin (b := .append) (xs := #[.tmp 55, .tmp 56]) rfl ?_); at_builtin; refine Kd.R_append_row (Value.int .u8) 0 (h1 := fun _ => rfl) _ rfl (.tmp 55) (.tmp 56) 28 5 (.int .u8 0) 1 rfl Try.underlying28 info5 rfl (by decide) _ [] lx X lx.length cx (fun _ => True) rfl rfl (fun _ _ => trivial) (Kd.R_of_own (own_lit_of (enc := Value.int .u8) _ _ 5 ([] : List Int) (Nat.le_refl _) (by simp)) (fun _ _ => trivial)) (Kd.C_alloc PX6.out.C _) (below_alloc (Below.refl _ _) _) (by simp) (by have := HLL.out; simp; omega) ?_; intro v7 w7 hR hB _ _; rw [List.nil_append] at hR; have R7 := Aside0.mk hR; have HX7 := Aside0.mk hB; clear hR hB)
    | ((with_reducible refine gate_builtin (b := .append) (xs := #[.tmp 57, .tmp 59]) rfl ?_); at_builtin; refine Kd.R_append_zeros (Kd.int .u8) _ rfl (.tmp 57) (.tmp 59) 28 3 5 (.int .u8 0) 1 rfl Try.underlying28 Try.underlying3 info5 rfl (by decide) (by omega) v7 lx 0 (m : Int) (fun _ => True) rfl rfl rfl (fun _ _ => trivial) R7.out (by omega) HX7.out HX7.out.size (by have := HLL.out; have := hmm.out; simp; omega) ?_; intro v8 w8 hR hB _ _; rw [Int.toNat_natCast, ← HLe.out] at hR; obtain ⟨A8, c8, rfl, hs8⟩ := cs_of hR; have S8 := Aside0.mk hs8; have HB8 := Aside0.mk (below_step HB6.out hB); have BP8 := Aside0.mk (BP6.out.below hB); have HP8 := Aside0.mk (HP6.out.below hB); clear hR hB hs8 R7 HX7 HB6 BP6 HP6 PX6))
  refine (dec_calls S8.out q n fe HDL.out).mono ?_
  rintro e w9 ⟨Z1, z1, Z2, z2, Z3, z3, rfl, hq9, hb9⟩
  have HB9 := Aside0.mk (below_step HB8.out hb9)
  have BP9 := Aside0.mk (BP8.out.below hb9)
  have HP9 := Aside0.mk (HP8.out.below hb9)
  have HQ9 := Aside0.mk hq9
  clear hb9 hq9 HB8 BP8 HP8 S8 HDL HLe
  unfold PgV.lay
  go_upto_region 13 with fail
  obtain ⟨wa, hwa⟩ : ∃ wa, wa = w9.alloc (.cells #[.int .i64 q.kind, .slice Z1 q.keys.length z1, .slice Z2 q.vals.length z2, .slice Z3 q.kids.length z3, .int .i64 q.root, .int .i64 q.next, .int .i64 q.size, .int .i64 q.idle] 27) := ⟨_, rfl⟩
  have HB := Aside0.mk (below_alloc HB9.out (.cells #[.int .i64 q.kind, .slice Z1 q.keys.length z1, .slice Z2 q.vals.length z2, .slice Z3 q.kids.length z3, .int .i64 q.root, .int .i64 q.next, .int .i64 q.size, .int .i64 q.idle] 27))
  have BP := Aside0.mk (BP9.out.below (below_alloc (Below.refl _ _) (.cells #[.int .i64 q.kind, .slice Z1 q.keys.length z1, .slice Z2 q.vals.length z2, .slice Z3 q.kids.length z3, .int .i64 q.root, .int .i64 q.next, .int .i64 q.size, .int .i64 q.idle] 27)))
  have HP := Aside0.mk (HP9.out.below (below_alloc (Below.refl _ _) (.cells #[.int .i64 q.kind, .slice Z1 q.keys.length z1, .slice Z2 q.vals.length z2, .slice Z3 q.kids.length z3, .int .i64 q.root, .int .i64 q.next, .int .i64 q.size, .int .i64 q.idle] 27)))
  have BQ := Aside0.mk (PBox.new q Z1 z1 Z2 z2 Z3 z3 w9)
  have HQ := Aside0.mk (HQ9.out.below (below_alloc (Below.refl _ _) (.cells #[.int .i64 q.kind, .slice Z1 q.keys.length z1, .slice Z2 q.vals.length z2, .slice Z3 q.kids.length z3, .int .i64 q.root, .int .i64 q.next, .int .i64 q.size, .int .i64 q.idle] 27)))
  rw [← hwa] at HB BP HP BQ HQ ⊢
  clear hwa HB9 BP9 HP9 HQ9
  generalize w9.heap.size = kq at BQ ⊢
  rcases HC.out with ⟨h1, rfl⟩ | ⟨h1, rfl, rfl, rfl⟩
  · have b1 : decide ((9223372036854775807 : Int) < (na : Int)) = true := decide_eq_true (by omega)
    clear h1 HC
    go_wp2
    go_ret
    exact ⟨rfl, HB.out⟩
  · have b1 : decide ((9223372036854775807 : Int) < (n : Int)) = false := decide_eq_false (by omega)
    clear h1 HC
    obtain ⟨_, d0, d1, d2, d3, d4, d5, d6, d7⟩ := BP.out
    obtain ⟨_, f0, f1, f2, f3, f4, f5, f6, f7⟩ := BQ.out
    go_wp2_with fail
    have hS1 := same_ok HQ.out HP.out (by have := HL.out; omega) (by have := HL.out; omega) (by have := HL.out; omega)
    rw [show sameB q q = true by rw [sameB_iff]] at hS1
    have HS1 := Aside0.mk hS1
    clear hS1
    refine HS1.out.mono ?_
    rintro e wb ⟨rfl, hbb⟩
    have HBb := Aside0.mk (below_step HB.out hbb)
    have BPb := Aside0.mk (BP.out.below hbb)
    have HPb := Aside0.mk (HP.out.below hbb)
    have BQb := Aside0.mk (BQ.out.below hbb)
    have HQb := Aside0.mk (HQ.out.below hbb)
    clear hbb d0 d1 d2 d3 d4 d5 d6 d7 f0 f1 f2 f3 f4 f5 f6 f7 HB BP HP BQ HQ HS1
    obtain ⟨_, d0, d1, d2, d3, d4, d5, d6, d7⟩ := BPb.out
    obtain ⟨_, f0, f1, f2, f3, f4, f5, f6, f7⟩ := BQb.out
    go_wp2_with fail
    have hS1 := same_ok HPb.out HQb.out (by have := HL.out; omega) (by have := HL.out; omega) (by have := HL.out; omega)
    rw [show sameB q q = true by rw [sameB_iff]] at hS1
    have HS1 := Aside0.mk hS1
    clear hS1
    refine HS1.out.mono ?_
    rintro e wc ⟨rfl, hbb⟩
    have HBc := Aside0.mk (below_step HBb.out hbb)
    clear hbb d0 d1 d2 d3 d4 d5 d6 d7 f0 f1 f2 f3 f4 f5 f6 f7 HBb BPb HPb BQb HQb HS1
    go_wp2
    go_ret
    exact ⟨rfl, HBc.out⟩

theorem law_m (p : PgV) (A1 : Option Addr) (c1 : Nat) (A2 : Option Addr) (c2 : Nat) (A3 : Option Addr) (c3 : Nat) (na : Nat) (more : Int) (w : World) (hp : PgR w p A1 c1 A2 c2 A3 c3) (ha : na < 18446744073709551616) :
    Calls Try.prog 6 #[p.lay A1 c1 A2 c2 A3 c3, .int .u64 (na : Int), .int .i64 more] w fun e w' => e = .returned (.bool true) ∧ Below w.heap.size w w' := by
  rcases Bool.eq_false_or_eq_true (smallB p) with hs | hs
  · rcases Bool.eq_false_or_eq_true (rightP p) with hr | hr
    · have hl := enc_small hr ha
      have hz : ∀ m : Nat, ∀ x ∈ List.replicate m (0 : Int), x = 0 := fun m x hx => List.eq_of_mem_replicate hx
      by_cases hn : na ≤ 9223372036854775807
      · refine good p A1 c1 A2 c2 A3 c3 na more _ p na 0 w hp hs hr ha rfl hl (fun m hm => ?_) (.inr ⟨hn, rfl, rfl, rfl⟩)
        rw [← encP_app]
        exact dec_fwd_p 200 p na _ (by omega) hr hn (hz m) (by rw [encP_app]; simp; omega)
      · refine good p A1 c1 A2 c2 A3 c3 na more _ zeroV 0 11 w hp hs hr ha rfl hl (fun m hm => ?_) (.inl ⟨by omega, rfl⟩)
        rw [← encP_app]
        rcases dec_any_p 200 (encP p na (List.replicate m 0)) (by omega) (byt_encP p na _ (byt_noughts (hz m))) (by rw [encP_app]; simp; omega) with h | ⟨q, j, t, h, _, he, _, hj⟩
        · exact h
        · exfalso
          unfold encP at he
          obtain ⟨_, h2⟩ := leb_inj _ _ _ _ he
          obtain ⟨h3, _⟩ := leb_inj _ _ _ _ h2
          omega
    · exact bad p A1 c1 A2 c2 A3 c3 na more w hp hs hr
  · exact large p A1 c1 A2 c2 A3 c3 na more w hp hs

theorem law_ok (k1 : Int) (A1 : Option Addr) (c1 : Nat) (l1 : List ByteArray) (A2 : Option Addr) (c2 : Nat) (l2 : List ByteArray) (A3 : Option Addr) (c3 : Nat) (l3 : List Int) (r1 x1 s1 i1 : Int) (a n : Int) (w : World)
    (_ : (Lit.int .i64 k1).wf = true) (h1 : l1.length ≤ c1) (C1 : Kd.C Kd.string w A1 l1.length l1) (_ : ∀ x ∈ l1, x.size ≤ maxLen) (h2 : l2.length ≤ c2) (C2 : Kd.C Kd.string w A2 l2.length l2) (_ : ∀ x ∈ l2, x.size ≤ maxLen) (h3 : l3.length ≤ c3) (C3 : Kd.C (Kd.int .i64) w A3 l3.length l3) (_ : ∀ x ∈ l3, (Lit.int .i64 x).wf = true) (_ : (Lit.int .i64 r1).wf = true) (_ : (Lit.int .i64 x1).wf = true) (_ : (Lit.int .i64 s1).wf = true) (_ : (Lit.int .i64 i1).wf = true)
    (ha : (Lit.int .u64 a).wf = true) (_ : (Lit.int .i64 n).wf = true) :
    Calls Try.prog 6 #[.agg #[.int .i64 k1, .slice A1 l1.length c1, .slice A2 l2.length c2, .slice A3 l3.length c3, .int .i64 r1, .int .i64 x1, .int .i64 s1, .int .i64 i1], .int .u64 a, .int .i64 n] w fun e w' => e = .returned (.bool true) ∧ Below w.heap.size w w' := by
  have b1 := bounds_u64 ha
  obtain ⟨a, rfl⟩ := Int.eq_ofNat_of_zero_le (show 0 ≤ a by omega)
  exact law_m ⟨k1, l1, l2, l3, r1, x1, s1, i1⟩ A1 c1 A2 c2 A3 c3 a n w ⟨C1, h1, C2, h2, C3, h3⟩ (by omega)

end Go.Proofs.Ytopfaeefhicljaa.PgCodes
