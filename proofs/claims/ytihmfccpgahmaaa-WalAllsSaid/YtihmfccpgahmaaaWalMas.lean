/- (*wal.Log).readMaster, walked: what a master sector says. Conditions: the log's numbers within their bounds, all on the disk is bytes. -/
import Derived.Test.YtihmfccpgahmaaaWalRead
namespace Go.Proofs.Ytihmfccpgahmaaa.Wal
open Go Go.RowKit Go.Proofs.YtihmfccpgahmaaaW.PrintWords Go.Proofs.YtihmfccpgahmaaaW.PrintMore Go.Proofs.YtihmfccpgahmaaaW.PrintLast Go.Proofs.Ytihmfccpgahmaaa.Dk Go.Proofs.Ytihmfccpgahmaaa.Q Go.Proofs.Ytihmfccpgahmaaa.Str Go.Proofs.Ytihmfccpgahmaaa.Leb
set_option linter.unusedVariables false
set_option linter.unusedSimpArgs false
structure Mst where
 seq : Int
 life : Int
 start : Int
 floor : Int
 ok : Bool
 e : Int
def dock : ByteArray := ⟨#[100, 111, 99, 107]⟩
/-- The master that a sector's bytes are. -/
def mst (l : List Int) (n : Int) : Mst :=
 ⟨(rnum (rtext ⟨l, 0⟩ 4).2 9223372036854775807).1, (rnum (rnum (rtext ⟨l, 0⟩ 4).2 9223372036854775807).2 1099511627776).1, (rnum (rnum (rnum (rtext ⟨l, 0⟩ 4).2 9223372036854775807).2 1099511627776).2 4611686018427387903).1,
  (rnum (rnum (rnum (rnum (rtext ⟨l, 0⟩ 4).2 9223372036854775807).2 1099511627776).2 4611686018427387903).2 1099511627776).1,
  (rnum (rnum (rnum (rnum (rtext ⟨l, 0⟩ 4).2 9223372036854775807).2 1099511627776).2 4611686018427387903).2 1099511627776).2.e == 0 && ((rtext ⟨l, 0⟩ 4).1.toList == dock.toList && (rnum (rtext ⟨l, 0⟩ 4).2 9223372036854775807).1 % 2 == n), 0⟩
/-- What a master sector says. -/
def LA.ms (L : LA) (M : DA) (n : Int) : Mst :=
 if M.rdE (L.fr + n) = 0 then mst (M.rdB (L.fr + n)) n else if M.rdE (L.fr + n) = 9 then ⟨0, 0, 0, 0, false, 0⟩ else ⟨0, 0, 0, 0, false, M.rdE (L.fr + n)⟩
def Mst.agg (m : Mst) : Value := .agg #[.pointer none, .int .i64 0, .int .i64 0, .int .u64 m.seq, .int .u64 m.life, .int .u64 m.start, .int .u64 m.floor, .int .u64 0, .int .u64 0]
def wlma1.T1 : Bool × List (List Nat × List Nat) := (true, [([], []), ([0], [0]), ([1], [1]), ([2], [2]), ([], []), ([4], [4]), ([5], [5]), ([6], [6]), ([], []), ([7, 8], [7, 8]), ([3, 9], [3, 9]), ([10], [10]), ([11], [11]), ([11], [11]), ([12, 10, 0, 1, 2, 3, 4, 5, 6, 7, 8, 9, 10, 11, 12], [12]), ([13, 14, 0, 1, 2, 3, 4, 5, 6, 7, 8, 9, 10, 11, 12, 13, 14], [13])])
def wlma1.B1 : List Nat := [0, 1, 3, 7, 0, 16, 48, 112, 0, 496, 1023, 2047, 4095, 4095, 8191, 32767]
theorem wlma1.tab1 : rtab .any (opsOf Try.f54 1) = wlma1.T1 := by kernel_rfl
theorem wlma1.bits1 : waitsOk wlma1.T1.2 wlma1.B1 = true := by kernel_rfl
def wlma10a.T10 : Bool × List (List Nat × List Nat) := (true, [([], []), ([], []), ([1], [1]), ([2], [2]), ([3, 2], [3]), ([4], [4]), ([5, 4], [4, 5]), ([4, 6], [4, 6]), ([7, 4], [7]), ([8], [8]), ([9, 8], [8, 9]), ([10, 8], [8, 10]), ([8], [8]), ([12, 8], [8, 12]), ([11, 13, 8], [8, 11, 13]), ([8, 14], [8, 14]), ([0, 8, 0], [0]), ([15, 16, 0, 1, 2, 3, 4, 5, 6, 7, 8, 9, 10, 11, 12, 13, 14, 15, 16], [15]), ([17, 0, 1, 2, 3, 4, 5, 6, 7, 8, 9, 10, 11, 12, 13, 14, 15, 16, 17], [])])
def wlma10a.B10 : List Nat := [0, 0, 2, 6, 14, 30, 62, 126, 254, 510, 1022, 2046, 510, 4606, 16382, 32766, 511, 131071, 262143]
theorem wlma10a.tab10 : rtab .any (opsOf Try.f54 10) = wlma10a.T10 := by kernel_rfl
theorem wlma10a.bits10 : waitsOk wlma10a.T10.2 wlma10a.B10 = true := by kernel_rfl
def wlma10b.T10 : Bool × List (List Nat × List Nat) := (true, [([], []), ([], []), ([1], [1]), ([2], [2]), ([3, 2], [3]), ([4], [4]), ([5, 4], [4, 5]), ([4, 6], [4, 6]), ([7, 4], [7]), ([8], [8]), ([9, 8], [8, 9]), ([10, 8], [8, 10]), ([8], [8]), ([12, 8], [8, 12]), ([11, 13, 8], [8, 11, 13]), ([8, 14], [8, 14]), ([0, 8, 0], [0]), ([15, 16, 0, 1, 2, 3, 4, 5, 6, 7, 8, 9, 10, 11, 12, 13, 14, 15, 16], [15]), ([17, 0, 1, 2, 3, 4, 5, 6, 7, 8, 9, 10, 11, 12, 13, 14, 15, 16, 17], [])])
def wlma10b.B10 : List Nat := [0, 0, 2, 6, 14, 30, 62, 126, 254, 510, 1022, 2046, 510, 4606, 16382, 32766, 511, 131071, 262143]
theorem wlma10b.tab10 : rtab .any (opsOf Try.f54 10) = wlma10b.T10 := by kernel_rfl
theorem wlma10b.bits10 : waitsOk wlma10b.T10.2 wlma10b.B10 = true := by kernel_rfl
def wlma10c.T10 : Bool × List (List Nat × List Nat) := (true, [([], []), ([], []), ([1], [1]), ([2], [2]), ([3, 2], [3]), ([4], [4]), ([5, 4], [4, 5]), ([4, 6], [4, 6]), ([7, 4], [7]), ([8], [8]), ([9, 8], [8, 9]), ([10, 8], [8, 10]), ([8], [8]), ([12, 8], [8, 12]), ([11, 13, 8], [8, 11, 13]), ([8, 14], [8, 14]), ([0, 8, 0], [0]), ([15, 16, 0, 1, 2, 3, 4, 5, 6, 7, 8, 9, 10, 11, 12, 13, 14, 15, 16], [15]), ([17, 0, 1, 2, 3, 4, 5, 6, 7, 8, 9, 10, 11, 12, 13, 14, 15, 16, 17], [])])
def wlma10c.B10 : List Nat := [0, 0, 2, 6, 14, 30, 62, 126, 254, 510, 1022, 2046, 510, 4606, 16382, 32766, 511, 131071, 262143]
theorem wlma10c.tab10 : rtab .any (opsOf Try.f54 10) = wlma10c.T10 := by kernel_rfl
theorem wlma10c.bits10 : waitsOk wlma10c.T10.2 wlma10c.B10 = true := by kernel_rfl
section
variable {w0 w : World} {p g : Nat} {S : Nat → Prop} {L : LA} {M : DA}
set_option maxRecDepth 100000 in
set_option maxHeartbeats 4000000 in
theorem master_l (h : Lg w0 w p g S L M) (hk : 0 ≤ L.fr ∧ L.fr ≤ 65536) (hY : DY M) (n : Int) (h0 : 0 ≤ n) (h1 : n < 2) : Calls Try.prog 54 #[.pointer (some ⟨p, 0, none⟩), .int .i64 n] w fun e w' =>
  e = .returned (.tuple #[(L.ms M n).agg, .bool (L.ms M n).ok, .int .i64 (L.ms M n).e]) ∧ Below w.heap.size w w' := by
 have hnw := Aside0.mk (show IntKind.i64.wrap (L.fr + n) = L.fr + n from wi64 (by omega) (by omega))
 have hwu := Aside0.mk (show IntKind.u64.wrap n = n from wu64 (by omega) (by omega))
 clear hk h0 h1
 go_enter Try.func54, Try.ntmps54
 go_upto_region 1 with fail
 have HL2 := Aside0.mk (h.below (below_alloc (Below.refl _ _) (.cells #[.pointer none, .int .i64 0, .int .i64 0, .int .u64 0, .int .u64 0, .int .u64 0, .int .u64 0, .int .u64 0, .int .u64 0] 89 (0, 0))))
 have BR := Aside0.mk (blk_new w (.cells #[.pointer none, .int .i64 0, .int .i64 0, .int .u64 0, .int .u64 0, .int .u64 0, .int .u64 0, .int .u64 0, .int .u64 0] 89 (0, 0)))
 have B0 := Aside0.mk (below_alloc (Below.refl w.heap.size w) (.cells #[.pointer none, .int .i64 0, .int .i64 0, .int .u64 0, .int .u64 0, .int .u64 0, .int .u64 0, .int .u64 0, .int .u64 0] 89 (0, 0)))
 obtain ⟨k4, hk4⟩ : ∃ k, k = w.heap.size := ⟨_, rfl⟩
 have HK4 := Aside0.mk (show w.heap.size ≤ k4 by omega)
 rw [← hk4] at BR ⊢
 clear h hk4
 generalize w.alloc _ = wa at HL2 BR B0 ⊢
 have HL := HL2
 clear HL2
 have HB := Aside0.mk (Below.refl wa.heap.size wa)
 refine start_ (n := 16) (S := fun w' => True) (ds := []) #[false, false, false, false, false, false, false, false, false, false, false, false, false, false, false, false] (by kernel_rfl) rfl rfl trivial (fun hHeld => ?_)
 refine with_tabW wlma1.tab1 wlma1.bits1 (fun HT_ HW_ => ?_)
 have n0_ := Aside0.mk (below_drew HB.out)
 clear HB
 generalize World.drew _ = wd at n0_ hHeld ⊢
 have HB := n0_
 clear hHeld n0_
 refine inv_at [0, 1, 2, 3, 4, 5, 6, 7, 8, 9, 10, 11, 12, 13, 14, 15] (fun a0_ b a w' => ∃ (s : Sec) (m10_ : Value) (m11_ : Value) (m12_ : Value) (m14_ : Value), a = putSel a0_ b [(0, 13, .pointer (some ⟨p, 0, none⟩)), (1, 14, .pointer (some ⟨p, 0, none⟩)), (2, 15, .pointer (some ⟨p, 0, none⟩)), (3, 16, .pointer (some ⟨g, 0, none⟩)), (4, 17, .pointer (some ⟨p, 0, none⟩)), (5, 18, .pointer (some ⟨p, 0, none⟩)), (6, 19, .pointer (some ⟨p, 1, none⟩)), (7, 20, .int .i64 L.fr), (8, 21, .int .i64 n), (9, 22, .int .i64 (L.fr + n)), (10, 23, m10_), (11, 12, m11_), (12, 24, m12_), (13, 25, .int .i64 (M.rdE (L.fr + n))), (14, 7, m14_), (15, 8, .int .i64 (M.rdE (L.fr + n)))] ∧ (Below wa.heap.size wa w') ∧ (b 10 = true → Own w' wa.heap.size (fun _ => True) s) ∧ (b 10 = true → s.b = M.rdB (L.fr + n)) ∧ (b 10 = true → (m10_ : Value) = .tuple #[s.v, .int .i64 (M.rdE (L.fr + n))]) ∧ (b 11 = true → (m11_ : Value) = .tuple #[s.v, .int .i64 (M.rdE (L.fr + n))]) ∧ (b 12 = true → (m12_ : Value) = s.v) ∧ (b 14 = true → (m14_ : Value) = s.v)) HT_.out HW_.out (by kernel_rfl) (by kernel_rfl) ?_ ?_ ?_
 ·exact ⟨Sec.nil, .bool false, .bool false, .bool false, .bool false, by simp only [putSel, Bool.false_eq_true, if_false], HB.out, fun h_ => absurd h_ (by decide), fun h_ => absurd h_ (by decide), fun h_ => absurd h_ (by decide), fun h_ => absurd h_ (by decide), fun h_ => absurd h_ (by decide), fun h_ => absurd h_ (by decide)⟩
 ·skip
  clear HB
  refine steps_cons ?_ ?_
  ·rintro b a w' ⟨s, m10_, m11_, m12_, m14_, ha, Q_HB, Q_HO, Q_HS, Q_X10_, Q_X11_, Q_X12_, Q_X14_⟩ hb_ hon hoff
   refine ⟨_, rfl, fun K hK => ?_⟩
   have e0 : a.tmps[0]? = some (.pointer (some ⟨p, 0, none⟩)) := by rw [ha]; exact (putSel_off rfl).trans rfl
   replace ha := Aside0.mk ha
   have HB := Aside0.mk Q_HB
   refine value_ (w1 := w') (v := .pointer (some ⟨p, 0, none⟩)) (by rfl) rfl ?_ ?_
   ·go_simp
    (try simp only [i64_w])
    try rfl
   refine hK.out _ _ ⟨s, m10_, m11_, m12_, m14_, (by rw [ha.out]; exact putSel_upk 0 hb_ rfl rfl rfl), Q_HB, fun h0_ => absurd ((hoff 10 (by kernel_rfl)).symm.trans h0_) (by decide), fun h0_ => absurd ((hoff 10 (by kernel_rfl)).symm.trans h0_) (by decide), fun h0_ => absurd ((hoff 10 (by kernel_rfl)).symm.trans h0_) (by decide), fun h0_ => absurd ((hoff 11 (by kernel_rfl)).symm.trans h0_) (by decide), fun h0_ => absurd ((hoff 12 (by kernel_rfl)).symm.trans h0_) (by decide), fun h0_ => absurd ((hoff 14 (by kernel_rfl)).symm.trans h0_) (by decide)⟩
  refine steps_cons ?_ ?_
  ·rintro b a w' ⟨s, m10_, m11_, m12_, m14_, ha, Q_HB, Q_HO, Q_HS, Q_X10_, Q_X11_, Q_X12_, Q_X14_⟩ hb_ hon hoff
   refine ⟨_, rfl, fun K hK => ?_⟩
   have e13 : a.tmps[13]? = some (.pointer (some ⟨p, 0, none⟩)) := by rw [ha]; exact putSel_on (e := (0, 13, .pointer (some ⟨p, 0, none⟩))) 0 rfl rfl (hon 0 (by kernel_rfl)) rfl
   replace ha := Aside0.mk ha
   have HB := Aside0.mk Q_HB
   refine value_ (w1 := w') (v := .pointer (some ⟨p, 0, none⟩)) (by rfl) rfl ?_ ?_
   ·go_simp
    (try simp only [i64_w])
    try rfl
   refine hK.out _ _ ⟨s, m10_, m11_, m12_, m14_, (by rw [ha.out]; exact putSel_upk 1 hb_ rfl rfl rfl), Q_HB, fun h0_ => absurd ((hoff 10 (by kernel_rfl)).symm.trans h0_) (by decide), fun h0_ => absurd ((hoff 10 (by kernel_rfl)).symm.trans h0_) (by decide), fun h0_ => absurd ((hoff 10 (by kernel_rfl)).symm.trans h0_) (by decide), fun h0_ => absurd ((hoff 11 (by kernel_rfl)).symm.trans h0_) (by decide), fun h0_ => absurd ((hoff 12 (by kernel_rfl)).symm.trans h0_) (by decide), fun h0_ => absurd ((hoff 14 (by kernel_rfl)).symm.trans h0_) (by decide)⟩
  refine steps_cons ?_ ?_
  ·rintro b a w' ⟨s, m10_, m11_, m12_, m14_, ha, Q_HB, Q_HO, Q_HS, Q_X10_, Q_X11_, Q_X12_, Q_X14_⟩ hb_ hon hoff
   refine ⟨_, rfl, fun K hK => ?_⟩
   have e14 : a.tmps[14]? = some (.pointer (some ⟨p, 0, none⟩)) := by rw [ha]; exact putSel_on (e := (1, 14, .pointer (some ⟨p, 0, none⟩))) 1 rfl rfl (hon 1 (by kernel_rfl)) rfl
   replace ha := Aside0.mk ha
   have HB := Aside0.mk Q_HB
   refine value_ (w1 := w') (v := .pointer (some ⟨p, 0, none⟩)) (by rfl) rfl ?_ ?_
   ·go_simp
    (try simp only [i64_w])
    try rfl
   refine hK.out _ _ ⟨s, m10_, m11_, m12_, m14_, (by rw [ha.out]; exact putSel_upk 2 hb_ rfl rfl rfl), Q_HB, fun h0_ => absurd ((hoff 10 (by kernel_rfl)).symm.trans h0_) (by decide), fun h0_ => absurd ((hoff 10 (by kernel_rfl)).symm.trans h0_) (by decide), fun h0_ => absurd ((hoff 10 (by kernel_rfl)).symm.trans h0_) (by decide), fun h0_ => absurd ((hoff 11 (by kernel_rfl)).symm.trans h0_) (by decide), fun h0_ => absurd ((hoff 12 (by kernel_rfl)).symm.trans h0_) (by decide), fun h0_ => absurd ((hoff 14 (by kernel_rfl)).symm.trans h0_) (by decide)⟩
  refine steps_cons ?_ ?_
  ·rintro b a w' ⟨s, m10_, m11_, m12_, m14_, ha, Q_HB, Q_HO, Q_HS, Q_X10_, Q_X11_, Q_X12_, Q_X14_⟩ hb_ hon hoff
   refine ⟨_, rfl, fun K hK => ?_⟩
   have e15 : a.tmps[15]? = some (.pointer (some ⟨p, 0, none⟩)) := by rw [ha]; exact putSel_on (e := (2, 15, .pointer (some ⟨p, 0, none⟩))) 2 rfl rfl (hon 2 (by kernel_rfl)) rfl
   replace ha := Aside0.mk ha
   have HB := Aside0.mk Q_HB
   have hc0_ : w'.cell? ⟨p, 0, none⟩ = some (.pointer (some ⟨g, 0, none⟩)) := (HL.out.below HB.out).cell 0 _ rfl
   refine value_ (w1 := w') (v := .pointer (some ⟨g, 0, none⟩)) (by rfl) rfl ?_ ?_
   ·go_simp
    (try simp only [i64_w])
    try rfl
   refine hK.out _ _ ⟨s, m10_, m11_, m12_, m14_, (by rw [ha.out]; exact putSel_upk 3 hb_ rfl rfl rfl), Q_HB, fun h0_ => absurd ((hoff 10 (by kernel_rfl)).symm.trans h0_) (by decide), fun h0_ => absurd ((hoff 10 (by kernel_rfl)).symm.trans h0_) (by decide), fun h0_ => absurd ((hoff 10 (by kernel_rfl)).symm.trans h0_) (by decide), fun h0_ => absurd ((hoff 11 (by kernel_rfl)).symm.trans h0_) (by decide), fun h0_ => absurd ((hoff 12 (by kernel_rfl)).symm.trans h0_) (by decide), fun h0_ => absurd ((hoff 14 (by kernel_rfl)).symm.trans h0_) (by decide)⟩
  refine steps_cons ?_ ?_
  ·rintro b a w' ⟨s, m10_, m11_, m12_, m14_, ha, Q_HB, Q_HO, Q_HS, Q_X10_, Q_X11_, Q_X12_, Q_X14_⟩ hb_ hon hoff
   refine ⟨_, rfl, fun K hK => ?_⟩
   have e0 : a.tmps[0]? = some (.pointer (some ⟨p, 0, none⟩)) := by rw [ha]; exact (putSel_off rfl).trans rfl
   replace ha := Aside0.mk ha
   have HB := Aside0.mk Q_HB
   refine value_ (w1 := w') (v := .pointer (some ⟨p, 0, none⟩)) (by rfl) rfl ?_ ?_
   ·go_simp
    (try simp only [i64_w])
    try rfl
   refine hK.out _ _ ⟨s, m10_, m11_, m12_, m14_, (by rw [ha.out]; exact putSel_upk 4 hb_ rfl rfl rfl), Q_HB, fun h0_ => absurd ((hoff 10 (by kernel_rfl)).symm.trans h0_) (by decide), fun h0_ => absurd ((hoff 10 (by kernel_rfl)).symm.trans h0_) (by decide), fun h0_ => absurd ((hoff 10 (by kernel_rfl)).symm.trans h0_) (by decide), fun h0_ => absurd ((hoff 11 (by kernel_rfl)).symm.trans h0_) (by decide), fun h0_ => absurd ((hoff 12 (by kernel_rfl)).symm.trans h0_) (by decide), fun h0_ => absurd ((hoff 14 (by kernel_rfl)).symm.trans h0_) (by decide)⟩
  refine steps_cons ?_ ?_
  ·rintro b a w' ⟨s, m10_, m11_, m12_, m14_, ha, Q_HB, Q_HO, Q_HS, Q_X10_, Q_X11_, Q_X12_, Q_X14_⟩ hb_ hon hoff
   refine ⟨_, rfl, fun K hK => ?_⟩
   have e17 : a.tmps[17]? = some (.pointer (some ⟨p, 0, none⟩)) := by rw [ha]; exact putSel_on (e := (4, 17, .pointer (some ⟨p, 0, none⟩))) 4 rfl rfl (hon 4 (by kernel_rfl)) rfl
   replace ha := Aside0.mk ha
   have HB := Aside0.mk Q_HB
   refine value_ (w1 := w') (v := .pointer (some ⟨p, 0, none⟩)) (by rfl) rfl ?_ ?_
   ·go_simp
    (try simp only [i64_w])
    try rfl
   refine hK.out _ _ ⟨s, m10_, m11_, m12_, m14_, (by rw [ha.out]; exact putSel_upk 5 hb_ rfl rfl rfl), Q_HB, fun h0_ => absurd ((hoff 10 (by kernel_rfl)).symm.trans h0_) (by decide), fun h0_ => absurd ((hoff 10 (by kernel_rfl)).symm.trans h0_) (by decide), fun h0_ => absurd ((hoff 10 (by kernel_rfl)).symm.trans h0_) (by decide), fun h0_ => absurd ((hoff 11 (by kernel_rfl)).symm.trans h0_) (by decide), fun h0_ => absurd ((hoff 12 (by kernel_rfl)).symm.trans h0_) (by decide), fun h0_ => absurd ((hoff 14 (by kernel_rfl)).symm.trans h0_) (by decide)⟩
  refine steps_cons ?_ ?_
  ·rintro b a w' ⟨s, m10_, m11_, m12_, m14_, ha, Q_HB, Q_HO, Q_HS, Q_X10_, Q_X11_, Q_X12_, Q_X14_⟩ hb_ hon hoff
   refine ⟨_, rfl, fun K hK => ?_⟩
   have e18 : a.tmps[18]? = some (.pointer (some ⟨p, 0, none⟩)) := by rw [ha]; exact putSel_on (e := (5, 18, .pointer (some ⟨p, 0, none⟩))) 5 rfl rfl (hon 5 (by kernel_rfl)) rfl
   replace ha := Aside0.mk ha
   have HB := Aside0.mk Q_HB
   refine value_ (w1 := w') (v := .pointer (some ⟨p, 1, none⟩)) (by rfl) rfl ?_ ?_
   ·go_simp
    (try simp only [i64_w])
    try rfl
   refine hK.out _ _ ⟨s, m10_, m11_, m12_, m14_, (by rw [ha.out]; exact putSel_upk 6 hb_ rfl rfl rfl), Q_HB, fun h0_ => absurd ((hoff 10 (by kernel_rfl)).symm.trans h0_) (by decide), fun h0_ => absurd ((hoff 10 (by kernel_rfl)).symm.trans h0_) (by decide), fun h0_ => absurd ((hoff 10 (by kernel_rfl)).symm.trans h0_) (by decide), fun h0_ => absurd ((hoff 11 (by kernel_rfl)).symm.trans h0_) (by decide), fun h0_ => absurd ((hoff 12 (by kernel_rfl)).symm.trans h0_) (by decide), fun h0_ => absurd ((hoff 14 (by kernel_rfl)).symm.trans h0_) (by decide)⟩
  refine steps_cons ?_ ?_
  ·rintro b a w' ⟨s, m10_, m11_, m12_, m14_, ha, Q_HB, Q_HO, Q_HS, Q_X10_, Q_X11_, Q_X12_, Q_X14_⟩ hb_ hon hoff
   refine ⟨_, rfl, fun K hK => ?_⟩
   have e19 : a.tmps[19]? = some (.pointer (some ⟨p, 1, none⟩)) := by rw [ha]; exact putSel_on (e := (6, 19, .pointer (some ⟨p, 1, none⟩))) 6 rfl rfl (hon 6 (by kernel_rfl)) rfl
   replace ha := Aside0.mk ha
   have HB := Aside0.mk Q_HB
   have hc1_ : w'.cell? ⟨p, 1, none⟩ = some (.int .i64 L.fr) := (HL.out.below HB.out).cell 1 _ rfl
   refine value_ (w1 := w') (v := .int .i64 L.fr) (by rfl) rfl ?_ ?_
   ·go_simp
    (try simp only [i64_w])
    try rfl
   refine hK.out _ _ ⟨s, m10_, m11_, m12_, m14_, (by rw [ha.out]; exact putSel_upk 7 hb_ rfl rfl rfl), Q_HB, fun h0_ => absurd ((hoff 10 (by kernel_rfl)).symm.trans h0_) (by decide), fun h0_ => absurd ((hoff 10 (by kernel_rfl)).symm.trans h0_) (by decide), fun h0_ => absurd ((hoff 10 (by kernel_rfl)).symm.trans h0_) (by decide), fun h0_ => absurd ((hoff 11 (by kernel_rfl)).symm.trans h0_) (by decide), fun h0_ => absurd ((hoff 12 (by kernel_rfl)).symm.trans h0_) (by decide), fun h0_ => absurd ((hoff 14 (by kernel_rfl)).symm.trans h0_) (by decide)⟩
  refine steps_cons ?_ ?_
  ·rintro b a w' ⟨s, m10_, m11_, m12_, m14_, ha, Q_HB, Q_HO, Q_HS, Q_X10_, Q_X11_, Q_X12_, Q_X14_⟩ hb_ hon hoff
   refine ⟨_, rfl, fun K hK => ?_⟩
   have e1 : a.tmps[1]? = some (.int .i64 n) := by rw [ha]; exact (putSel_off rfl).trans rfl
   replace ha := Aside0.mk ha
   have HB := Aside0.mk Q_HB
   refine value_ (w1 := w') (v := .int .i64 n) (by rfl) rfl ?_ ?_
   ·go_simp
    (try simp only [i64_w])
    try rfl
   refine hK.out _ _ ⟨s, m10_, m11_, m12_, m14_, (by rw [ha.out]; exact putSel_upk 8 hb_ rfl rfl rfl), Q_HB, fun h0_ => absurd ((hoff 10 (by kernel_rfl)).symm.trans h0_) (by decide), fun h0_ => absurd ((hoff 10 (by kernel_rfl)).symm.trans h0_) (by decide), fun h0_ => absurd ((hoff 10 (by kernel_rfl)).symm.trans h0_) (by decide), fun h0_ => absurd ((hoff 11 (by kernel_rfl)).symm.trans h0_) (by decide), fun h0_ => absurd ((hoff 12 (by kernel_rfl)).symm.trans h0_) (by decide), fun h0_ => absurd ((hoff 14 (by kernel_rfl)).symm.trans h0_) (by decide)⟩
  refine steps_cons ?_ ?_
  ·rintro b a w' ⟨s, m10_, m11_, m12_, m14_, ha, Q_HB, Q_HO, Q_HS, Q_X10_, Q_X11_, Q_X12_, Q_X14_⟩ hb_ hon hoff
   refine ⟨_, rfl, fun K hK => ?_⟩
   have e20 : a.tmps[20]? = some (.int .i64 L.fr) := by rw [ha]; exact putSel_on (e := (7, 20, .int .i64 L.fr)) 7 rfl rfl (hon 7 (by kernel_rfl)) rfl
   have e21 : a.tmps[21]? = some (.int .i64 n) := by rw [ha]; exact putSel_on (e := (8, 21, .int .i64 n)) 8 rfl rfl (hon 8 (by kernel_rfl)) rfl
   replace ha := Aside0.mk ha
   have HB := Aside0.mk Q_HB
   have hw_ := hnw.out
   refine value_ (w1 := w') (v := .int .i64 (L.fr + n)) (by rfl) rfl ?_ ?_
   ·go_simp
    (try simp only [i64_w])
    try rfl
   refine hK.out _ _ ⟨s, m10_, m11_, m12_, m14_, (by rw [ha.out]; exact putSel_upk 9 hb_ rfl rfl rfl), Q_HB, fun h0_ => absurd ((hoff 10 (by kernel_rfl)).symm.trans h0_) (by decide), fun h0_ => absurd ((hoff 10 (by kernel_rfl)).symm.trans h0_) (by decide), fun h0_ => absurd ((hoff 10 (by kernel_rfl)).symm.trans h0_) (by decide), fun h0_ => absurd ((hoff 11 (by kernel_rfl)).symm.trans h0_) (by decide), fun h0_ => absurd ((hoff 12 (by kernel_rfl)).symm.trans h0_) (by decide), fun h0_ => absurd ((hoff 14 (by kernel_rfl)).symm.trans h0_) (by decide)⟩
  refine steps_cons ?_ ?_
  ·rintro b a w' ⟨s, m10_, m11_, m12_, m14_, ha, Q_HB, Q_HO, Q_HS, Q_X10_, Q_X11_, Q_X12_, Q_X14_⟩ hb_ hon hoff
   refine ⟨_, rfl, fun K hK => ?_⟩
   have e16 : a.tmps[16]? = some (.pointer (some ⟨g, 0, none⟩)) := by rw [ha]; exact putSel_on (e := (3, 16, .pointer (some ⟨g, 0, none⟩))) 3 rfl rfl (hon 3 (by kernel_rfl)) rfl
   have e22 : a.tmps[22]? = some (.int .i64 (L.fr + n)) := by rw [ha]; exact putSel_on (e := (9, 22, .int .i64 (L.fr + n))) 9 rfl rfl (hon 9 (by kernel_rfl)) rfl
   replace ha := Aside0.mk ha
   have HB := Aside0.mk Q_HB
   refine goes_ Try.func23 (by kernel_rfl) rfl #[.pointer (some ⟨g, 0, none⟩), .int .i64 (L.fr + n)] (by rfl) rfl rfl (by first | (simp only [List.map_toArray, List.map_cons, List.map_nil, Act.eval, Array.getD_eq_getD_getElem?, Option.getD_some, e16, e22]; done) | (simp only [List.map_toArray, List.map_cons, List.map_nil, Act.eval, Array.getD_eq_getD_getElem?, Option.getD_some, e16, e22]; rfl)) ?_
   refine (st_read (HL.out.below HB.out).D (L.fr + n)).mono ?_
   rintro e_ wn_ ⟨sn_, rfl, hs_, ho_, hbw_⟩
   refine ⟨_, rfl, ?_⟩
   refine hK.out _ _ ⟨sn_, (.tuple #[sn_.v, .int .i64 (M.rdE (L.fr + n))]), m11_, m12_, m14_, (by rw [ha.out]; exact putSel_upk 10 hb_ rfl rfl rfl), (below_step HB.out hbw_), fun _ => (Kd.R_lower ho_ HB.out.size), fun _ => hs_, fun _ => rfl, fun h0_ => absurd ((hoff 11 (by kernel_rfl)).symm.trans h0_) (by decide), fun h0_ => absurd ((hoff 12 (by kernel_rfl)).symm.trans h0_) (by decide), fun h0_ => absurd ((hoff 14 (by kernel_rfl)).symm.trans h0_) (by decide)⟩
  refine steps_cons ?_ ?_
  ·rintro b a w' ⟨s, m10_, m11_, m12_, m14_, ha, Q_HB, Q_HO, Q_HS, Q_X10_, Q_X11_, Q_X12_, Q_X14_⟩ hb_ hon hoff
   refine ⟨_, rfl, fun K hK => ?_⟩
   have e23 : a.tmps[23]? = some (m10_) := by rw [ha]; exact putSel_on (e := (10, 23, m10_)) 10 rfl rfl (hon 10 (by kernel_rfl)) rfl
   rw [Q_X10_ (hon 10 (by kernel_rfl))] at e23
   replace ha := Aside0.mk ha
   have HB := Aside0.mk Q_HB
   have HO := Aside0.mk (Q_HO (hon 10 (by kernel_rfl)))
   have HS := Aside0.mk (Q_HS (hon 10 (by kernel_rfl)))
   refine value_ (w1 := w') (v := .tuple #[s.v, .int .i64 (M.rdE (L.fr + n))]) (by rfl) rfl ?_ ?_
   ·go_simp
    (try simp only [i64_w])
    try rfl
   refine hK.out _ _ ⟨s, m10_, (.tuple #[s.v, .int .i64 (M.rdE (L.fr + n))]), m12_, m14_, (by rw [ha.out]; exact putSel_upk 11 hb_ rfl rfl rfl), Q_HB, Q_HO, Q_HS, Q_X10_, fun _ => rfl, fun h0_ => absurd ((hoff 12 (by kernel_rfl)).symm.trans h0_) (by decide), fun h0_ => absurd ((hoff 14 (by kernel_rfl)).symm.trans h0_) (by decide)⟩
  refine steps_cons ?_ ?_
  ·rintro b a w' ⟨s, m10_, m11_, m12_, m14_, ha, Q_HB, Q_HO, Q_HS, Q_X10_, Q_X11_, Q_X12_, Q_X14_⟩ hb_ hon hoff
   refine ⟨_, rfl, fun K hK => ?_⟩
   have e12 : a.tmps[12]? = some (m11_) := by rw [ha]; exact putSel_on (e := (11, 12, m11_)) 11 rfl rfl (hon 11 (by kernel_rfl)) rfl
   rw [Q_X11_ (hon 11 (by kernel_rfl))] at e12
   replace ha := Aside0.mk ha
   have HB := Aside0.mk Q_HB
   have HO := Aside0.mk (Q_HO (hon 10 (by kernel_rfl)))
   have HS := Aside0.mk (Q_HS (hon 10 (by kernel_rfl)))
   refine value_ (w1 := w') (v := s.v) (by rfl) rfl ?_ ?_
   ·go_simp
    (try simp only [i64_w])
    try rfl
   refine hK.out _ _ ⟨s, m10_, m11_, (s.v), m14_, (by rw [ha.out]; exact putSel_upk 12 hb_ rfl rfl rfl), Q_HB, Q_HO, Q_HS, Q_X10_, Q_X11_, fun _ => rfl, fun h0_ => absurd ((hoff 14 (by kernel_rfl)).symm.trans h0_) (by decide)⟩
  refine steps_cons ?_ ?_
  ·rintro b a w' ⟨s, m10_, m11_, m12_, m14_, ha, Q_HB, Q_HO, Q_HS, Q_X10_, Q_X11_, Q_X12_, Q_X14_⟩ hb_ hon hoff
   refine ⟨_, rfl, fun K hK => ?_⟩
   have e12 : a.tmps[12]? = some (m11_) := by rw [ha]; exact putSel_on (e := (11, 12, m11_)) 11 rfl rfl (hon 11 (by kernel_rfl)) rfl
   rw [Q_X11_ (hon 11 (by kernel_rfl))] at e12
   replace ha := Aside0.mk ha
   have HB := Aside0.mk Q_HB
   have HO := Aside0.mk (Q_HO (hon 10 (by kernel_rfl)))
   have HS := Aside0.mk (Q_HS (hon 10 (by kernel_rfl)))
   refine value_ (w1 := w') (v := .int .i64 (M.rdE (L.fr + n))) (by rfl) rfl ?_ ?_
   ·go_simp
    (try simp only [i64_w])
    try rfl
   refine hK.out _ _ ⟨s, m10_, m11_, m12_, m14_, (by rw [ha.out]; exact putSel_upk 13 hb_ rfl rfl rfl), Q_HB, Q_HO, Q_HS, Q_X10_, Q_X11_, Q_X12_, Q_X14_⟩
  refine steps_cons ?_ ?_
  ·rintro b a w' ⟨s, m10_, m11_, m12_, m14_, ha, Q_HB, Q_HO, Q_HS, Q_X10_, Q_X11_, Q_X12_, Q_X14_⟩ hb_ hon hoff
   refine ⟨_, rfl, fun K hK => ?_⟩
   have e24 : a.tmps[24]? = some (m12_) := by rw [ha]; exact putSel_on (e := (12, 24, m12_)) 12 rfl rfl (hon 12 (by kernel_rfl)) rfl
   rw [Q_X12_ (hon 12 (by kernel_rfl))] at e24
   replace ha := Aside0.mk ha
   have HB := Aside0.mk Q_HB
   have HO := Aside0.mk (Q_HO (hon 10 (by kernel_rfl)))
   have HS := Aside0.mk (Q_HS (hon 10 (by kernel_rfl)))
   refine value_ (w1 := w') (v := s.v) (by rfl) rfl ?_ ?_
   ·go_simp
    (try simp only [i64_w])
    try rfl
   refine hK.out _ _ ⟨s, m10_, m11_, m12_, (s.v), (by rw [ha.out]; exact putSel_upk 14 hb_ rfl rfl rfl), Q_HB, Q_HO, Q_HS, Q_X10_, Q_X11_, Q_X12_, fun _ => rfl⟩
  refine steps_cons ?_ ?_
  ·rintro b a w' ⟨s, m10_, m11_, m12_, m14_, ha, Q_HB, Q_HO, Q_HS, Q_X10_, Q_X11_, Q_X12_, Q_X14_⟩ hb_ hon hoff
   refine ⟨_, rfl, fun K hK => ?_⟩
   have e25 : a.tmps[25]? = some (.int .i64 (M.rdE (L.fr + n))) := by rw [ha]; exact putSel_on (e := (13, 25, .int .i64 (M.rdE (L.fr + n)))) 13 rfl rfl (hon 13 (by kernel_rfl)) rfl
   replace ha := Aside0.mk ha
   have HB := Aside0.mk Q_HB
   have HO := Aside0.mk (Q_HO (hon 10 (by kernel_rfl)))
   have HS := Aside0.mk (Q_HS (hon 10 (by kernel_rfl)))
   refine value_ (w1 := w') (v := .int .i64 (M.rdE (L.fr + n))) (by rfl) rfl ?_ ?_
   ·go_simp
    (try simp only [i64_w])
    try rfl
   refine hK.out _ _ ⟨s, m10_, m11_, m12_, m14_, (by rw [ha.out]; exact putSel_upk 15 hb_ rfl rfl rfl), Q_HB, Q_HO, Q_HS, Q_X10_, Q_X11_, Q_X12_, Q_X14_⟩
  exact steps_nil
 rintro b a w' hall ⟨s, m10_, m11_, m12_, m14_, ha, Q_HB, Q_HO, Q_HS, Q_X10_, Q_X11_, Q_X12_, Q_X14_⟩
 clear HB
 have hb0_ := hall 0 (by kernel_rfl)
 have hb1_ := hall 1 (by kernel_rfl)
 have hb2_ := hall 2 (by kernel_rfl)
 have hb3_ := hall 3 (by kernel_rfl)
 have hb4_ := hall 4 (by kernel_rfl)
 have hb5_ := hall 5 (by kernel_rfl)
 have hb6_ := hall 6 (by kernel_rfl)
 have hb7_ := hall 7 (by kernel_rfl)
 have hb8_ := hall 8 (by kernel_rfl)
 have hb9_ := hall 9 (by kernel_rfl)
 have hb10_ := hall 10 (by kernel_rfl)
 have hb11_ := hall 11 (by kernel_rfl)
 have hb12_ := hall 12 (by kernel_rfl)
 have hb13_ := hall 13 (by kernel_rfl)
 have hb14_ := hall 14 (by kernel_rfl)
 have hb15_ := hall 15 (by kernel_rfl)
 subst ha
 obtain rfl := Q_X10_ hb10_
 obtain rfl := Q_X11_ hb11_
 obtain rfl := Q_X12_ hb12_
 obtain rfl := Q_X14_ hb14_
 simp only [putSel, hb0_, hb1_, hb2_, hb3_, hb4_, hb5_, hb6_, hb7_, hb8_, hb9_, hb10_, hb11_, hb12_, hb13_, hb14_, hb15_, if_true, Act.put, List.setIfInBounds_toArray, List.set_cons_zero, List.set_cons_succ]
 have HB := Aside0.mk Q_HB
 clear Q_HB
 have HO := Aside0.mk (Q_HO hb10_)
 clear Q_HO
 have HS := Aside0.mk (Q_HS hb10_)
 clear Q_HS
 clear hall hb0_ hb1_ hb2_ hb3_ hb4_ hb5_ hb6_ hb7_ hb8_ hb9_ hb10_ hb11_ hb12_ hb13_ hb14_ hb15_
 obtain ⟨E, hE⟩ : ∃ E, E = M.rdE (L.fr + n) := ⟨_, rfl⟩
 simp only [← hE]
 have HE := Aside0.mk hE
 have HB' := Aside0.mk ((HB.out.block k4 (blk_lt BR.out)).trans BR.out)
 have c0 : w'.cell? ⟨k4, 0, none⟩ = some (.pointer none) := (blk_cell HB'.out 0).trans rfl
 have c1 : w'.cell? ⟨k4, 1, none⟩ = some (.int .i64 0) := (blk_cell HB'.out 1).trans rfl
 have c2 : w'.cell? ⟨k4, 2, none⟩ = some (.int .i64 0) := (blk_cell HB'.out 2).trans rfl
 have c3 : w'.cell? ⟨k4, 3, none⟩ = some (.int .u64 0) := (blk_cell HB'.out 3).trans rfl
 have c4 : w'.cell? ⟨k4, 4, none⟩ = some (.int .u64 0) := (blk_cell HB'.out 4).trans rfl
 have c5 : w'.cell? ⟨k4, 5, none⟩ = some (.int .u64 0) := (blk_cell HB'.out 5).trans rfl
 have c6 : w'.cell? ⟨k4, 6, none⟩ = some (.int .u64 0) := (blk_cell HB'.out 6).trans rfl
 have c7 : w'.cell? ⟨k4, 7, none⟩ = some (.int .u64 0) := (blk_cell HB'.out 7).trans rfl
 have c8 : w'.cell? ⟨k4, 8, none⟩ = some (.int .u64 0) := (blk_cell HB'.out 8).trans rfl
 have f0 : w'.frozen? ⟨k4, 0, none⟩ = false := blk_frozen HB'.out 0
 have f1 : w'.frozen? ⟨k4, 1, none⟩ = false := blk_frozen HB'.out 1
 have f2 : w'.frozen? ⟨k4, 2, none⟩ = false := blk_frozen HB'.out 2
 have f3 : w'.frozen? ⟨k4, 3, none⟩ = false := blk_frozen HB'.out 3
 have f4 : w'.frozen? ⟨k4, 4, none⟩ = false := blk_frozen HB'.out 4
 have f5 : w'.frozen? ⟨k4, 5, none⟩ = false := blk_frozen HB'.out 5
 have f6 : w'.frozen? ⟨k4, 6, none⟩ = false := blk_frozen HB'.out 6
 have f7 : w'.frozen? ⟨k4, 7, none⟩ = false := blk_frozen HB'.out 7
 have f8 : w'.frozen? ⟨k4, 8, none⟩ = false := blk_frozen HB'.out 8
 have B1 := Aside0.mk (B0.out.trans (HB.out.mono B0.out.size))
 clear Q_X10_ Q_X11_ Q_X12_ Q_X14_ hE HT_ HW_
 by_cases h9 : E = 9
 ·subst h9
  go_wp2
  (try simp only [Exit.inBlock, Exit.then])
  refine bodyPost_ret (results_cell2 rfl _ _ k4 89 _ _ _ rfl (blk_put (blk_put (blk_put (blk_put (blk_put (blk_put (blk_put (blk_put (blk_put HB'.out 0 _ rfl) 1 _ rfl) 2 _ rfl) 3 _ rfl) 4 _ rfl) 5 _ rfl) 6 _ rfl) 7 _ rfl) 8 _ rfl) Try.underlying89 rfl (by kernel_rfl)) rfl ?_
  refine ⟨?_, (below_set (below_set (below_set (below_set (below_set (below_set (below_set (below_set (below_set B1.out HK4.out) HK4.out) HK4.out) HK4.out) HK4.out) HK4.out) HK4.out) HK4.out) HK4.out)⟩
  rw [show L.ms M n = ⟨0, 0, 0, 0, false, 0⟩ by unfold LA.ms; rw [← HE.out]; rfl]
  rfl
 ·by_cases hz : E = 0
  ·subst hz
   clear c0 c1 c2 c3 c4 c5 c6 c7 c8 f0 f1 f2 f3 f4 f5 f6 f7 f8
   go_wp2_with fail
   obtain ⟨hc_, hC_⟩ := own_C (A := s.a) (c := s.c) (l := s.b) HO.out
   refine (rd_read (w0 := w') (Below.refl _ _) hC_ hc_ (by rw [HS.out]; exact hY.rdB _)).mono ?_
   rintro e w2 ⟨gr, rfl, hr, hb, hgr⟩
   have HR := Aside0.mk hr
   have HBr := Aside0.mk (hb : Below w'.heap.size w' w2)
   have HYb := Aside0.mk (show Byt s.b by rw [HS.out]; exact hY.rdB _)
   clear hr hb hc_ hC_ hgr h9
   go_wp2_with fail
   refine (rd_text HR.out HBr.out 4 (by decide) (by decide)).mono ?_
   rintro e w3 ⟨rfl, hr, hb, _⟩
   obtain ⟨q1, hq1⟩ : ∃ q, q = rtext ⟨s.b, 0⟩ 4 := ⟨_, rfl⟩
   rw [← hq1] at hr ⊢
   have HQ1 := Aside0.mk hq1
   clear HR HBr hq1
   have HR := Aside0.mk hr
   have HBr := Aside0.mk hb
   clear hr hb
   go_wp2_with fail
   refine (rd_num HR.out HBr.out _).mono ?_
   rintro e w4 ⟨rfl, hr, hb, _⟩
   obtain ⟨q2, hq2⟩ : ∃ q, q = rnum q1.2 9223372036854775807 := ⟨_, rfl⟩
   rw [← hq2] at hr ⊢
   have HQ2 := Aside0.mk hq2
   clear HR HBr hq2
   have HR := Aside0.mk hr
   have HBr := Aside0.mk hb
   clear hr hb
   go_wp2_with fail
   refine (rd_num HR.out HBr.out _).mono ?_
   rintro e w5 ⟨rfl, hr, hb, _⟩
   obtain ⟨q3, hq3⟩ : ∃ q, q = rnum q2.2 1099511627776 := ⟨_, rfl⟩
   rw [← hq3] at hr ⊢
   have HQ3 := Aside0.mk hq3
   clear HR HBr hq3
   have HR := Aside0.mk hr
   have HBr := Aside0.mk hb
   clear hr hb
   go_wp2_with fail
   refine (rd_num HR.out HBr.out _).mono ?_
   rintro e w6 ⟨rfl, hr, hb, _⟩
   obtain ⟨q4, hq4⟩ : ∃ q, q = rnum q3.2 4611686018427387903 := ⟨_, rfl⟩
   rw [← hq4] at hr ⊢
   have HQ4 := Aside0.mk hq4
   clear HR HBr hq4
   have HR := Aside0.mk hr
   have HBr := Aside0.mk hb
   clear hr hb
   go_wp2_with fail
   have HT := Aside0.mk (blk_new w6 (.cells #[.pointer none, .int .i64 0, .int .i64 0, .int .u64 q2.1, .int .u64 q3.1, .int .u64 q4.1, .int .u64 0, .int .u64 0, .int .u64 0] 89 (0, 0)))
   have HR5 := Aside0.mk (HR.out.alloc (.cells #[.pointer none, .int .i64 0, .int .i64 0, .int .u64 q2.1, .int .u64 q3.1, .int .u64 q4.1, .int .u64 0, .int .u64 0, .int .u64 0] 89 (0, 0)))
   have HB5 := Aside0.mk (below_alloc HBr.out (.cells #[.pointer none, .int .i64 0, .int .i64 0, .int .u64 q2.1, .int .u64 q3.1, .int .u64 q4.1, .int .u64 0, .int .u64 0, .int .u64 0] 89 (0, 0)))
   obtain ⟨k11, hk11⟩ : ∃ k, k = w6.heap.size := ⟨_, rfl⟩
   have hne := Aside0.mk (show k11 ≠ gr by have := HR.out.lt; omega)
   have hge := Aside0.mk (show w'.heap.size ≤ k11 by rw [hk11]; exact HBr.out.size)
   rw [← hk11] at HT ⊢
   clear HR HBr hk11
   generalize w6.alloc _ = w7 at HT HR5 HB5 ⊢
   refine (rd_num HR5.out HB5.out _).mono ?_
   rintro e w8 ⟨rfl, hr, hb, hkp⟩
   obtain ⟨q5, hq5⟩ : ∃ q, q = rnum q4.2 1099511627776 := ⟨_, rfl⟩
   rw [← hq5] at hr ⊢
   have HQ5 := Aside0.mk hq5
   have HT8 := Aside0.mk ((hkp.2 k11 (blk_lt HT.out) hne.out (by simp)).trans HT.out)
   clear HR5 HB5 hq5 HT hkp
   have HR := Aside0.mk hr
   have HBr := Aside0.mk hb
   clear hr hb
   have y1 : w8.cell? ⟨k11, 6, none⟩ = some (.int .u64 0) := (blk_cell HT8.out 6).trans rfl
   have z1 : w8.frozen? ⟨k11, 6, none⟩ = false := blk_frozen HT8.out 6
   go_upto_region 10 with fail
   have HT9 := Aside0.mk (blk_put HT8.out 6 (.int .u64 q5.1) rfl)
   have HR9 := Aside0.mk (HR.out.far (p := ⟨k11, 6, none⟩) hne.out.symm (.int .u64 q5.1))
   have HB9 := Aside0.mk (show Below w'.heap.size w' (w8.setCell ⟨k11, 6, none⟩ (.int .u64 q5.1)) from below_set HBr.out hge.out)
   clear HR HBr HT8 y1 z1
   generalize w8.setCell _ _ = w9 at HT9 HR9 HB9 ⊢
   obtain ⟨wx, hwx⟩ : ∃ x, x = w' := ⟨_, rfl⟩
   subst hwx
   have HT := HT9
   have HR := HR9
   have R0 := Aside0.mk ((HB9.out.block k4 (blk_lt HB'.out)).trans HB'.out)
   have HB := Aside0.mk (B1.out.trans (HB9.out.mono B1.out.size))
   have hneR := Aside0.mk (show gr ≠ k4 by have h_ := HR9.out.ge; have h2_ := blk_lt HB'.out; omega)
   have hne11 := Aside0.mk (show k11 ≠ k4 by have h_ := hge.out; have h2_ := blk_lt HB'.out; omega)
   have hpos := rnum_range (s := q1.2) (most := 9223372036854775807) (text_byt HYb.out 4 (by decide) HQ1.out)
   rw [← HQ2.out] at hpos
   have hmod := Aside0.mk (show Int.tmod q2.1 2 = q2.1 % 2 from Int.tmod_eq_emod_of_nonneg hpos.1)
   clear HT9 HR9 HB9 hge hne hpos
   by_cases he4 : q5.2.e = 0
   ·have hq5 := Aside0.mk (show (q5.2.e == 0) = true by simp [he4])
    clear he4
    by_cases hwd : q1.1.toList = dock.toList
    ·have hqw := Aside0.mk (show (q1.1.toList == dock.toList) = true ∧ (q1.1.toList == [100, 111, 99, 107]) = true from ⟨by simp [hwd], by rw [hwd]; decide +kernel⟩)
     have hqd := Aside0.mk (show (q1.1.toList == dock.toList) = true from hqw.out.1)
     clear hwd
     refine start_ (n := 19) (S := fun w' => True) (ds := []) #[false, false, false, false, false, false, false, false, false, false, false, false, false, false, false, false, false, false, false] (by kernel_rfl) rfl rfl trivial (fun hHeld => ?_)
     refine with_tabW wlma10c.tab10 wlma10c.bits10 (fun HT_ HW_ => ?_)
     have n0_ := Aside0.mk (blk_drew HT.out)
     have n1_ := Aside0.mk (HR.out.drew)
     have n2_ := Aside0.mk (blk_drew R0.out)
     have n3_ := Aside0.mk (below_drew HB.out)
     clear HT HR R0 HB
     generalize World.drew _ = wd at n0_ n1_ n2_ n3_ hHeld ⊢
     have HT := n0_
     have HR := n1_
     have R0 := n2_
     have HB := n3_
     clear hHeld n0_ n1_ n2_ n3_
     refine inv_at [0, 1, 2, 3, 4, 5, 6, 7, 8, 9, 10, 11, 12, 13, 14, 15, 16, 17, 18] (fun a0_ b a w' => a = putSel a0_ b [(0, 49, .agg #[.pointer none, .int .i64 0, .int .i64 0, .int .u64 q2.1, .int .u64 q3.1, .int .u64 q4.1, .int .u64 q5.1, .int .u64 0, .int .u64 0]), (1, 50, .pointer (some ⟨gr, 0, none⟩)), (2, 51, .int .i64 q5.2.e), (3, 52, .bool true), (4, 53, .bool true), (5, 54, .string q1.1), (6, 55, .bool true), (7, 56, .bool true), (8, 57, .bool true), (9, 58, .pointer (some ⟨k11, 3, none⟩)), (10, 59, .int .u64 q2.1), (11, 60, .int .u64 (q2.1 % 2)), (12, 61, .int .i64 n), (13, 62, .int .u64 n), (14, 63, .bool (q2.1 % 2 == n)), (15, 64, .bool (q2.1 % 2 == n)), (17, 5, .bool (q2.1 % 2 == n)), (18, 6, .int .i64 0)] ∧ (w'.heap[k11]? = some (.cells #[.pointer none, .int .i64 0, .int .i64 0, .int .u64 q2.1, .int .u64 q3.1, .int .u64 q4.1, .int .u64 q5.1, .int .u64 0, .int .u64 0] 89 (0, 0))) ∧ (Rdr wx w' gr q5.2) ∧ (b 16 = false → w'.heap[k4]? = some (.cells #[.pointer none, .int .i64 0, .int .i64 0, .int .u64 0, .int .u64 0, .int .u64 0, .int .u64 0, .int .u64 0, .int .u64 0] 89 (0, 0))) ∧ (b 16 = true → w'.heap[k4]? = some (.cells #[.pointer none, .int .i64 0, .int .i64 0, .int .u64 q2.1, .int .u64 q3.1, .int .u64 q4.1, .int .u64 q5.1, .int .u64 0, .int .u64 0] 89 (0, 0))) ∧ (Below w.heap.size w w')) HT_.out HW_.out (by kernel_rfl) (by kernel_rfl) ?_ ?_ ?_
     ·exact ⟨by simp only [putSel, Bool.false_eq_true, if_false], HT.out, HR.out, fun _ => R0.out, fun h_ => absurd h_ (by decide), HB.out⟩
     ·skip
      clear HB HR HT R0
      refine steps_cons ?_ ?_
      ·rintro b a w' ⟨ha, Q_HT, Q_HR, Q_R0, Q_R1, Q_HB⟩ hb_ hon hoff
       refine ⟨_, rfl, fun K hK => ?_⟩
       have e11 : a.tmps[11]? = some (.pointer (some ⟨k11, 0, none⟩)) := by rw [ha]; exact (putSel_off rfl).trans rfl
       replace ha := Aside0.mk ha
       have HT := Aside0.mk Q_HT
       have HR := Aside0.mk Q_HR
       have R0 := Aside0.mk (Q_R0 (hoff 16 (by kernel_rfl)))
       have HB := Aside0.mk Q_HB
       have hy0_ : w'.cell? ⟨k11, 0, none⟩ = some (.pointer none) := (blk_cell HT.out 0).trans rfl
       have hy1_ : w'.cell? ⟨k11, 1, none⟩ = some (.int .i64 0) := (blk_cell HT.out 1).trans rfl
       have hy2_ : w'.cell? ⟨k11, 2, none⟩ = some (.int .i64 0) := (blk_cell HT.out 2).trans rfl
       have hy3_ : w'.cell? ⟨k11, 3, none⟩ = some (.int .u64 q2.1) := (blk_cell HT.out 3).trans rfl
       have hy4_ : w'.cell? ⟨k11, 4, none⟩ = some (.int .u64 q3.1) := (blk_cell HT.out 4).trans rfl
       have hy5_ : w'.cell? ⟨k11, 5, none⟩ = some (.int .u64 q4.1) := (blk_cell HT.out 5).trans rfl
       have hy6_ : w'.cell? ⟨k11, 6, none⟩ = some (.int .u64 q5.1) := (blk_cell HT.out 6).trans rfl
       have hy7_ : w'.cell? ⟨k11, 7, none⟩ = some (.int .u64 0) := (blk_cell HT.out 7).trans rfl
       have hy8_ : w'.cell? ⟨k11, 8, none⟩ = some (.int .u64 0) := (blk_cell HT.out 8).trans rfl
       refine value_ (w1 := w') (v := .agg #[.pointer none, .int .i64 0, .int .i64 0, .int .u64 q2.1, .int .u64 q3.1, .int .u64 q4.1, .int .u64 q5.1, .int .u64 0, .int .u64 0]) (by rfl) rfl ?_ ?_
       ·go_simp
        (try simp only [i64_w])
        try rfl
       refine hK.out _ _ ⟨(by rw [ha.out]; exact putSel_upk 0 hb_ rfl rfl rfl), Q_HT, Q_HR, Q_R0, fun h0_ => absurd ((hoff 16 (by kernel_rfl)).symm.trans h0_) (by decide), Q_HB⟩
      refine steps_cons ?_ ?_
      ·rintro b a w' ⟨ha, Q_HT, Q_HR, Q_R0, Q_R1, Q_HB⟩ hb_ hon hoff
       refine ⟨_, rfl, fun K hK => ?_⟩
       have e9 : a.tmps[9]? = some (.pointer (some ⟨gr, 0, none⟩)) := by rw [ha]; exact (putSel_off rfl).trans rfl
       replace ha := Aside0.mk ha
       have HT := Aside0.mk Q_HT
       have HR := Aside0.mk Q_HR
       have R0 := Aside0.mk (Q_R0 (hoff 16 (by kernel_rfl)))
       have HB := Aside0.mk Q_HB
       refine value_ (w1 := w') (v := .pointer (some ⟨gr, 0, none⟩)) (by rfl) rfl ?_ ?_
       ·go_simp
        (try simp only [i64_w])
        try rfl
       refine hK.out _ _ ⟨(by rw [ha.out]; exact putSel_upk 1 hb_ rfl rfl rfl), Q_HT, Q_HR, Q_R0, fun h0_ => absurd ((hoff 16 (by kernel_rfl)).symm.trans h0_) (by decide), Q_HB⟩
      refine steps_cons ?_ ?_
      ·rintro b a w' ⟨ha, Q_HT, Q_HR, Q_R0, Q_R1, Q_HB⟩ hb_ hon hoff
       refine ⟨_, rfl, fun K hK => ?_⟩
       have e50 : a.tmps[50]? = some (.pointer (some ⟨gr, 0, none⟩)) := by rw [ha]; exact putSel_on (e := (1, 50, .pointer (some ⟨gr, 0, none⟩))) 1 rfl rfl (hon 1 (by kernel_rfl)) rfl
       replace ha := Aside0.mk ha
       have HT := Aside0.mk Q_HT
       have HR := Aside0.mk Q_HR
       have R0 := Aside0.mk (Q_R0 (hoff 16 (by kernel_rfl)))
       have HB := Aside0.mk Q_HB
       refine goes_ Try.func63 (by kernel_rfl) rfl #[.pointer (some ⟨gr, 0, none⟩)] (by rfl) rfl rfl (by first | (simp only [List.map_toArray, List.map_cons, List.map_nil, Act.eval, Array.getD_eq_getD_getElem?, Option.getD_some, e50]; done) | (simp only [List.map_toArray, List.map_cons, List.map_nil, Act.eval, Array.getD_eq_getD_getElem?, Option.getD_some, e50]; rfl)) ?_
       refine (rd_err HR.out).mono ?_
       rintro e_ wn_ ⟨rfl, rfl⟩
       refine ⟨_, rfl, ?_⟩
       refine hK.out _ _ ⟨(by rw [ha.out]; exact putSel_upk 2 hb_ rfl rfl rfl), HT.out, HR.out, fun _ => R0.out, fun h0_ => absurd ((hoff 16 (by kernel_rfl)).symm.trans h0_) (by decide), HB.out⟩
      refine steps_cons ?_ ?_
      ·rintro b a w' ⟨ha, Q_HT, Q_HR, Q_R0, Q_R1, Q_HB⟩ hb_ hon hoff
       refine ⟨_, rfl, fun K hK => ?_⟩
       have e51 : a.tmps[51]? = some (.int .i64 q5.2.e) := by rw [ha]; exact putSel_on (e := (2, 51, .int .i64 q5.2.e)) 2 rfl rfl (hon 2 (by kernel_rfl)) rfl
       replace ha := Aside0.mk ha
       have HT := Aside0.mk Q_HT
       have HR := Aside0.mk Q_HR
       have R0 := Aside0.mk (Q_R0 (hoff 16 (by kernel_rfl)))
       have HB := Aside0.mk Q_HB
       have hq_ := hq5.out
       refine value_ (w1 := w') (v := .bool true) (by rfl) rfl ?_ ?_
       ·go_simp
        (try simp only [i64_w])
        try rfl
       refine hK.out _ _ ⟨(by rw [ha.out]; exact putSel_upk 3 hb_ rfl rfl rfl), Q_HT, Q_HR, Q_R0, fun h0_ => absurd ((hoff 16 (by kernel_rfl)).symm.trans h0_) (by decide), Q_HB⟩
      refine steps_cons ?_ ?_
      ·rintro b a w' ⟨ha, Q_HT, Q_HR, Q_R0, Q_R1, Q_HB⟩ hb_ hon hoff
       refine ⟨_, rfl, fun K hK => ?_⟩
       have e52 : a.tmps[52]? = some (.bool true) := by rw [ha]; exact putSel_on (e := (3, 52, .bool true)) 3 rfl rfl (hon 3 (by kernel_rfl)) rfl
       replace ha := Aside0.mk ha
       have HT := Aside0.mk Q_HT
       have HR := Aside0.mk Q_HR
       have R0 := Aside0.mk (Q_R0 (hoff 16 (by kernel_rfl)))
       have HB := Aside0.mk Q_HB
       refine value_ (w1 := w') (v := .bool true) (by rfl) rfl ?_ ?_
       ·go_simp
        (try simp only [i64_w])
        try rfl
       refine hK.out _ _ ⟨(by rw [ha.out]; exact putSel_upk 4 hb_ rfl rfl rfl), Q_HT, Q_HR, Q_R0, fun h0_ => absurd ((hoff 16 (by kernel_rfl)).symm.trans h0_) (by decide), Q_HB⟩
      refine steps_cons ?_ ?_
      ·rintro b a w' ⟨ha, Q_HT, Q_HR, Q_R0, Q_R1, Q_HB⟩ hb_ hon hoff
       refine ⟨_, rfl, fun K hK => ?_⟩
       have e10 : a.tmps[10]? = some (.string q1.1) := by rw [ha]; exact (putSel_off rfl).trans rfl
       have e53 : a.tmps[53]? = some (.bool true) := by rw [ha]; exact putSel_on (e := (4, 53, .bool true)) 4 rfl rfl (hon 4 (by kernel_rfl)) rfl
       replace ha := Aside0.mk ha
       have HT := Aside0.mk Q_HT
       have HR := Aside0.mk Q_HR
       have R0 := Aside0.mk (Q_R0 (hoff 16 (by kernel_rfl)))
       have HB := Aside0.mk Q_HB
       refine value_ (w1 := w') (v := .string q1.1) (wanted_on rfl rfl rfl (e53.trans (by first | rfl | (simp [*]; done)))) rfl ?_ ?_
       ·go_simp
        (try simp only [i64_w])
        try rfl
       refine hK.out _ _ ⟨(by rw [ha.out]; exact putSel_upk 5 hb_ rfl rfl rfl), Q_HT, Q_HR, Q_R0, fun h0_ => absurd ((hoff 16 (by kernel_rfl)).symm.trans h0_) (by decide), Q_HB⟩
      refine steps_cons ?_ ?_
      ·rintro b a w' ⟨ha, Q_HT, Q_HR, Q_R0, Q_R1, Q_HB⟩ hb_ hon hoff
       refine ⟨_, rfl, fun K hK => ?_⟩
       have e54 : a.tmps[54]? = some (.string q1.1) := by rw [ha]; exact putSel_on (e := (5, 54, .string q1.1)) 5 rfl rfl (hon 5 (by kernel_rfl)) rfl
       have e53 : a.tmps[53]? = some (.bool true) := by rw [ha]; exact putSel_on (e := (4, 53, .bool true)) 4 rfl rfl (hon 4 (by kernel_rfl)) rfl
       replace ha := Aside0.mk ha
       have HT := Aside0.mk Q_HT
       have HR := Aside0.mk Q_HR
       have R0 := Aside0.mk (Q_R0 (hoff 16 (by kernel_rfl)))
       have HB := Aside0.mk Q_HB
       have hq_ := hqw.out.1
       have hq2_ := hqw.out.2
       refine value_ (w1 := w') (v := .bool true) (wanted_on rfl rfl rfl (e53.trans (by first | rfl | (simp [*]; done)))) rfl ?_ ?_
       ·go_simp
        (try simp only [i64_w])
        try rfl
       refine hK.out _ _ ⟨(by rw [ha.out]; exact putSel_upk 6 hb_ rfl rfl rfl), Q_HT, Q_HR, Q_R0, fun h0_ => absurd ((hoff 16 (by kernel_rfl)).symm.trans h0_) (by decide), Q_HB⟩
      refine steps_cons ?_ ?_
      ·rintro b a w' ⟨ha, Q_HT, Q_HR, Q_R0, Q_R1, Q_HB⟩ hb_ hon hoff
       refine ⟨_, rfl, fun K hK => ?_⟩
       have e53 : a.tmps[53]? = some (.bool true) := by rw [ha]; exact putSel_on (e := (4, 53, .bool true)) 4 rfl rfl (hon 4 (by kernel_rfl)) rfl
       have e55 : a.tmps[55]? = some (.bool true) := by rw [ha]; exact putSel_on (e := (6, 55, .bool true)) 6 rfl rfl (hon 6 (by kernel_rfl)) rfl
       replace ha := Aside0.mk ha
       have HT := Aside0.mk Q_HT
       have HR := Aside0.mk Q_HR
       have R0 := Aside0.mk (Q_R0 (hoff 16 (by kernel_rfl)))
       have HB := Aside0.mk Q_HB
       refine value_ (w1 := w') (v := .bool true) (by rfl) rfl ?_ ?_
       ·go_simp
        (try simp only [i64_w])
        try rfl
       refine hK.out _ _ ⟨(by rw [ha.out]; exact putSel_upk 7 hb_ rfl rfl rfl), Q_HT, Q_HR, Q_R0, fun h0_ => absurd ((hoff 16 (by kernel_rfl)).symm.trans h0_) (by decide), Q_HB⟩
      refine steps_cons ?_ ?_
      ·rintro b a w' ⟨ha, Q_HT, Q_HR, Q_R0, Q_R1, Q_HB⟩ hb_ hon hoff
       refine ⟨_, rfl, fun K hK => ?_⟩
       have e56 : a.tmps[56]? = some (.bool true) := by rw [ha]; exact putSel_on (e := (7, 56, .bool true)) 7 rfl rfl (hon 7 (by kernel_rfl)) rfl
       replace ha := Aside0.mk ha
       have HT := Aside0.mk Q_HT
       have HR := Aside0.mk Q_HR
       have R0 := Aside0.mk (Q_R0 (hoff 16 (by kernel_rfl)))
       have HB := Aside0.mk Q_HB
       refine value_ (w1 := w') (v := .bool true) (by rfl) rfl ?_ ?_
       ·go_simp
        (try simp only [i64_w])
        try rfl
       refine hK.out _ _ ⟨(by rw [ha.out]; exact putSel_upk 8 hb_ rfl rfl rfl), Q_HT, Q_HR, Q_R0, fun h0_ => absurd ((hoff 16 (by kernel_rfl)).symm.trans h0_) (by decide), Q_HB⟩
      refine steps_cons ?_ ?_
      ·rintro b a w' ⟨ha, Q_HT, Q_HR, Q_R0, Q_R1, Q_HB⟩ hb_ hon hoff
       refine ⟨_, rfl, fun K hK => ?_⟩
       have e11 : a.tmps[11]? = some (.pointer (some ⟨k11, 0, none⟩)) := by rw [ha]; exact (putSel_off rfl).trans rfl
       have e57 : a.tmps[57]? = some (.bool true) := by rw [ha]; exact putSel_on (e := (8, 57, .bool true)) 8 rfl rfl (hon 8 (by kernel_rfl)) rfl
       replace ha := Aside0.mk ha
       have HT := Aside0.mk Q_HT
       have HR := Aside0.mk Q_HR
       have HB := Aside0.mk Q_HB
       refine value_ (w1 := w') (v := .pointer (some ⟨k11, 3, none⟩)) (wanted_on rfl rfl rfl (e57.trans (by first | rfl | (simp [*]; done)))) rfl ?_ ?_
       ·go_simp
        (try simp only [i64_w])
        try rfl
       refine hK.out _ _ ⟨(by rw [ha.out]; exact putSel_upk 9 hb_ rfl rfl rfl), Q_HT, Q_HR, Q_R0, Q_R1, Q_HB⟩
      refine steps_cons ?_ ?_
      ·rintro b a w' ⟨ha, Q_HT, Q_HR, Q_R0, Q_R1, Q_HB⟩ hb_ hon hoff
       refine ⟨_, rfl, fun K hK => ?_⟩
       have e58 : a.tmps[58]? = some (.pointer (some ⟨k11, 3, none⟩)) := by rw [ha]; exact putSel_on (e := (9, 58, .pointer (some ⟨k11, 3, none⟩))) 9 rfl rfl (hon 9 (by kernel_rfl)) rfl
       have e57 : a.tmps[57]? = some (.bool true) := by rw [ha]; exact putSel_on (e := (8, 57, .bool true)) 8 rfl rfl (hon 8 (by kernel_rfl)) rfl
       replace ha := Aside0.mk ha
       have HT := Aside0.mk Q_HT
       have HR := Aside0.mk Q_HR
       have HB := Aside0.mk Q_HB
       have hy3_ : w'.cell? ⟨k11, 3, none⟩ = some (.int .u64 q2.1) := (blk_cell HT.out 3).trans rfl
       refine value_ (w1 := w') (v := .int .u64 q2.1) (wanted_on rfl rfl rfl (e57.trans (by first | rfl | (simp [*]; done)))) rfl ?_ ?_
       ·go_simp
        (try simp only [i64_w])
        try rfl
       refine hK.out _ _ ⟨(by rw [ha.out]; exact putSel_upk 10 hb_ rfl rfl rfl), Q_HT, Q_HR, Q_R0, Q_R1, Q_HB⟩
      refine steps_cons ?_ ?_
      ·rintro b a w' ⟨ha, Q_HT, Q_HR, Q_R0, Q_R1, Q_HB⟩ hb_ hon hoff
       refine ⟨_, rfl, fun K hK => ?_⟩
       have e59 : a.tmps[59]? = some (.int .u64 q2.1) := by rw [ha]; exact putSel_on (e := (10, 59, .int .u64 q2.1)) 10 rfl rfl (hon 10 (by kernel_rfl)) rfl
       have e57 : a.tmps[57]? = some (.bool true) := by rw [ha]; exact putSel_on (e := (8, 57, .bool true)) 8 rfl rfl (hon 8 (by kernel_rfl)) rfl
       replace ha := Aside0.mk ha
       have HT := Aside0.mk Q_HT
       have HR := Aside0.mk Q_HR
       have HB := Aside0.mk Q_HB
       have hm_ := hmod.out
       refine value_ (w1 := w') (v := .int .u64 (q2.1 % 2)) (wanted_on rfl rfl rfl (e57.trans (by first | rfl | (simp [*]; done)))) rfl ?_ ?_
       ·go_simp
        (try simp only [i64_w])
        try rfl
       refine hK.out _ _ ⟨(by rw [ha.out]; exact putSel_upk 11 hb_ rfl rfl rfl), Q_HT, Q_HR, Q_R0, Q_R1, Q_HB⟩
      refine steps_cons ?_ ?_
      ·rintro b a w' ⟨ha, Q_HT, Q_HR, Q_R0, Q_R1, Q_HB⟩ hb_ hon hoff
       refine ⟨_, rfl, fun K hK => ?_⟩
       have e1 : a.tmps[1]? = some (.int .i64 n) := by rw [ha]; exact (putSel_off rfl).trans rfl
       have e57 : a.tmps[57]? = some (.bool true) := by rw [ha]; exact putSel_on (e := (8, 57, .bool true)) 8 rfl rfl (hon 8 (by kernel_rfl)) rfl
       replace ha := Aside0.mk ha
       have HT := Aside0.mk Q_HT
       have HR := Aside0.mk Q_HR
       have HB := Aside0.mk Q_HB
       refine value_ (w1 := w') (v := .int .i64 n) (wanted_on rfl rfl rfl (e57.trans (by first | rfl | (simp [*]; done)))) rfl ?_ ?_
       ·go_simp
        (try simp only [i64_w])
        try rfl
       refine hK.out _ _ ⟨(by rw [ha.out]; exact putSel_upk 12 hb_ rfl rfl rfl), Q_HT, Q_HR, Q_R0, Q_R1, Q_HB⟩
      refine steps_cons ?_ ?_
      ·rintro b a w' ⟨ha, Q_HT, Q_HR, Q_R0, Q_R1, Q_HB⟩ hb_ hon hoff
       refine ⟨_, rfl, fun K hK => ?_⟩
       have e61 : a.tmps[61]? = some (.int .i64 n) := by rw [ha]; exact putSel_on (e := (12, 61, .int .i64 n)) 12 rfl rfl (hon 12 (by kernel_rfl)) rfl
       have e57 : a.tmps[57]? = some (.bool true) := by rw [ha]; exact putSel_on (e := (8, 57, .bool true)) 8 rfl rfl (hon 8 (by kernel_rfl)) rfl
       replace ha := Aside0.mk ha
       have HT := Aside0.mk Q_HT
       have HR := Aside0.mk Q_HR
       have HB := Aside0.mk Q_HB
       have hw_ := hwu.out
       refine value_ (w1 := w') (v := .int .u64 n) (wanted_on rfl rfl rfl (e57.trans (by first | rfl | (simp [*]; done)))) rfl ?_ ?_
       ·go_simp
        (try simp only [i64_w])
        try rfl
       refine hK.out _ _ ⟨(by rw [ha.out]; exact putSel_upk 13 hb_ rfl rfl rfl), Q_HT, Q_HR, Q_R0, Q_R1, Q_HB⟩
      refine steps_cons ?_ ?_
      ·rintro b a w' ⟨ha, Q_HT, Q_HR, Q_R0, Q_R1, Q_HB⟩ hb_ hon hoff
       refine ⟨_, rfl, fun K hK => ?_⟩
       have e60 : a.tmps[60]? = some (.int .u64 (q2.1 % 2)) := by rw [ha]; exact putSel_on (e := (11, 60, .int .u64 (q2.1 % 2))) 11 rfl rfl (hon 11 (by kernel_rfl)) rfl
       have e62 : a.tmps[62]? = some (.int .u64 n) := by rw [ha]; exact putSel_on (e := (13, 62, .int .u64 n)) 13 rfl rfl (hon 13 (by kernel_rfl)) rfl
       have e57 : a.tmps[57]? = some (.bool true) := by rw [ha]; exact putSel_on (e := (8, 57, .bool true)) 8 rfl rfl (hon 8 (by kernel_rfl)) rfl
       replace ha := Aside0.mk ha
       have HT := Aside0.mk Q_HT
       have HR := Aside0.mk Q_HR
       have HB := Aside0.mk Q_HB
       refine value_ (w1 := w') (v := .bool (q2.1 % 2 == n)) (wanted_on rfl rfl rfl (e57.trans (by first | rfl | (simp [*]; done)))) rfl ?_ ?_
       ·go_simp
        (try simp only [i64_w])
        try rfl
       refine hK.out _ _ ⟨(by rw [ha.out]; exact putSel_upk 14 hb_ rfl rfl rfl), Q_HT, Q_HR, Q_R0, Q_R1, Q_HB⟩
      refine steps_cons ?_ ?_
      ·rintro b a w' ⟨ha, Q_HT, Q_HR, Q_R0, Q_R1, Q_HB⟩ hb_ hon hoff
       refine ⟨_, rfl, fun K hK => ?_⟩
       have e57 : a.tmps[57]? = some (.bool true) := by rw [ha]; exact putSel_on (e := (8, 57, .bool true)) 8 rfl rfl (hon 8 (by kernel_rfl)) rfl
       have e63 : a.tmps[63]? = some (.bool (q2.1 % 2 == n)) := by rw [ha]; exact putSel_on (e := (14, 63, .bool (q2.1 % 2 == n))) 14 rfl rfl (hon 14 (by kernel_rfl)) rfl
       replace ha := Aside0.mk ha
       have HT := Aside0.mk Q_HT
       have HR := Aside0.mk Q_HR
       have HB := Aside0.mk Q_HB
       refine value_ (w1 := w') (v := .bool (q2.1 % 2 == n)) (by rfl) rfl ?_ ?_
       ·go_simp
        (try simp only [i64_w])
        try rfl
       refine hK.out _ _ ⟨(by rw [ha.out]; exact putSel_upk 15 hb_ rfl rfl rfl), Q_HT, Q_HR, Q_R0, Q_R1, Q_HB⟩
      refine steps_cons ?_ ?_
      ·rintro b a w' ⟨ha, Q_HT, Q_HR, Q_R0, Q_R1, Q_HB⟩ hb_ hon hoff
       refine ⟨_, rfl, fun K hK => ?_⟩
       have e4 : a.tmps[4]? = some (.pointer (some ⟨k4, 0, none⟩)) := by rw [ha]; exact (putSel_off rfl).trans rfl
       have e49 : a.tmps[49]? = some (.agg #[.pointer none, .int .i64 0, .int .i64 0, .int .u64 q2.1, .int .u64 q3.1, .int .u64 q4.1, .int .u64 q5.1, .int .u64 0, .int .u64 0]) := by rw [ha]; exact putSel_on (e := (0, 49, .agg #[.pointer none, .int .i64 0, .int .i64 0, .int .u64 q2.1, .int .u64 q3.1, .int .u64 q4.1, .int .u64 q5.1, .int .u64 0, .int .u64 0])) 0 rfl rfl (hon 0 (by kernel_rfl)) rfl
       replace ha := Aside0.mk ha
       have HT := Aside0.mk Q_HT
       have HR := Aside0.mk Q_HR
       have R0 := Aside0.mk (Q_R0 hb_)
       have HB := Aside0.mk Q_HB
       have hz0_ : w'.cell? ⟨k4, 0, none⟩ = some (.pointer none) := (blk_cell R0.out 0).trans rfl
       have hz1_ : w'.cell? ⟨k4, 1, none⟩ = some (.int .i64 0) := (blk_cell R0.out 1).trans rfl
       have hz2_ : w'.cell? ⟨k4, 2, none⟩ = some (.int .i64 0) := (blk_cell R0.out 2).trans rfl
       have hz3_ : w'.cell? ⟨k4, 3, none⟩ = some (.int .u64 0) := (blk_cell R0.out 3).trans rfl
       have hz4_ : w'.cell? ⟨k4, 4, none⟩ = some (.int .u64 0) := (blk_cell R0.out 4).trans rfl
       have hz5_ : w'.cell? ⟨k4, 5, none⟩ = some (.int .u64 0) := (blk_cell R0.out 5).trans rfl
       have hz6_ : w'.cell? ⟨k4, 6, none⟩ = some (.int .u64 0) := (blk_cell R0.out 6).trans rfl
       have hz7_ : w'.cell? ⟨k4, 7, none⟩ = some (.int .u64 0) := (blk_cell R0.out 7).trans rfl
       have hz8_ : w'.cell? ⟨k4, 8, none⟩ = some (.int .u64 0) := (blk_cell R0.out 8).trans rfl
       have hf0_ : w'.frozen? ⟨k4, 0, none⟩ = false := blk_frozen R0.out 0
       have hf1_ : w'.frozen? ⟨k4, 1, none⟩ = false := blk_frozen R0.out 1
       have hf2_ : w'.frozen? ⟨k4, 2, none⟩ = false := blk_frozen R0.out 2
       have hf3_ : w'.frozen? ⟨k4, 3, none⟩ = false := blk_frozen R0.out 3
       have hf4_ : w'.frozen? ⟨k4, 4, none⟩ = false := blk_frozen R0.out 4
       have hf5_ : w'.frozen? ⟨k4, 5, none⟩ = false := blk_frozen R0.out 5
       have hf6_ : w'.frozen? ⟨k4, 6, none⟩ = false := blk_frozen R0.out 6
       have hf7_ : w'.frozen? ⟨k4, 7, none⟩ = false := blk_frozen R0.out 7
       have hf8_ : w'.frozen? ⟨k4, 8, none⟩ = false := blk_frozen R0.out 8
       refine skip_ (w1 := (((((((((w'.setCell ⟨k4, 0, none⟩ (.pointer none)).setCell ⟨k4, 1, none⟩ (.int .i64 0)).setCell ⟨k4, 2, none⟩ (.int .i64 0)).setCell ⟨k4, 3, none⟩ (.int .u64 q2.1)).setCell ⟨k4, 4, none⟩ (.int .u64 q3.1)).setCell ⟨k4, 5, none⟩ (.int .u64 q4.1)).setCell ⟨k4, 6, none⟩ (.int .u64 q5.1)).setCell ⟨k4, 7, none⟩ (.int .u64 0)).setCell ⟨k4, 8, none⟩ (.int .u64 0))) (by rfl) rfl ?_ ?_
       ·go_simp
        try rfl
       refine hK.out _ _ ⟨(by rw [ha.out]; exact putSel_none (v := undef) rfl), (blk_far (blk_far (blk_far (blk_far (blk_far (blk_far (blk_far (blk_far (blk_far HT.out (p := ⟨k4, 0, none⟩) hne11.out _) (p := ⟨k4, 1, none⟩) hne11.out _) (p := ⟨k4, 2, none⟩) hne11.out _) (p := ⟨k4, 3, none⟩) hne11.out _) (p := ⟨k4, 4, none⟩) hne11.out _) (p := ⟨k4, 5, none⟩) hne11.out _) (p := ⟨k4, 6, none⟩) hne11.out _) (p := ⟨k4, 7, none⟩) hne11.out _) (p := ⟨k4, 8, none⟩) hne11.out _), (IsS107.far (IsS107.far (IsS107.far (IsS107.far (IsS107.far (IsS107.far (IsS107.far (IsS107.far (IsS107.far HR.out (p := ⟨k4, 0, none⟩) hneR.out _) (p := ⟨k4, 1, none⟩) hneR.out _) (p := ⟨k4, 2, none⟩) hneR.out _) (p := ⟨k4, 3, none⟩) hneR.out _) (p := ⟨k4, 4, none⟩) hneR.out _) (p := ⟨k4, 5, none⟩) hneR.out _) (p := ⟨k4, 6, none⟩) hneR.out _) (p := ⟨k4, 7, none⟩) hneR.out _) (p := ⟨k4, 8, none⟩) hneR.out _), fun h0_ => absurd ((up_self b 16).symm.trans h0_) (by decide), fun _ => (blk_put (blk_put (blk_put (blk_put (blk_put (blk_put (blk_put (blk_put (blk_put R0.out 0 _ rfl) 1 _ rfl) 2 _ rfl) 3 _ rfl) 4 _ rfl) 5 _ rfl) 6 _ rfl) 7 _ rfl) 8 _ rfl), (below_set (below_set (below_set (below_set (below_set (below_set (below_set (below_set (below_set HB.out HK4.out) HK4.out) HK4.out) HK4.out) HK4.out) HK4.out) HK4.out) HK4.out) HK4.out)⟩
      refine steps_cons ?_ ?_
      ·rintro b a w' ⟨ha, Q_HT, Q_HR, Q_R0, Q_R1, Q_HB⟩ hb_ hon hoff
       refine ⟨_, rfl, fun K hK => ?_⟩
       have e64 : a.tmps[64]? = some (.bool (q2.1 % 2 == n)) := by rw [ha]; exact putSel_on (e := (15, 64, .bool (q2.1 % 2 == n))) 15 rfl rfl (hon 15 (by kernel_rfl)) rfl
       replace ha := Aside0.mk ha
       have HT := Aside0.mk Q_HT
       have HR := Aside0.mk Q_HR
       have R1 := Aside0.mk (Q_R1 (hon 16 (by kernel_rfl)))
       have HB := Aside0.mk Q_HB
       refine value_ (w1 := w') (v := .bool (q2.1 % 2 == n)) (by rfl) rfl ?_ ?_
       ·go_simp
        (try simp only [i64_w])
        try rfl
       refine hK.out _ _ ⟨(by rw [ha.out]; exact putSel_upk 16 hb_ rfl rfl rfl), Q_HT, Q_HR, fun h0_ => absurd ((hon 16 (by kernel_rfl)).symm.trans h0_) (by decide), Q_R1, Q_HB⟩
      refine steps_cons ?_ ?_
      ·rintro b a w' ⟨ha, Q_HT, Q_HR, Q_R0, Q_R1, Q_HB⟩ hb_ hon hoff
       refine ⟨_, rfl, fun K hK => ?_⟩
       replace ha := Aside0.mk ha
       have HT := Aside0.mk Q_HT
       have HR := Aside0.mk Q_HR
       have R1 := Aside0.mk (Q_R1 (hon 16 (by kernel_rfl)))
       have HB := Aside0.mk Q_HB
       refine value_ (w1 := w') (v := .int .i64 0) (by rfl) rfl ?_ ?_
       ·go_simp
        (try simp only [i64_w])
        try rfl
       refine hK.out _ _ ⟨(by rw [ha.out]; exact putSel_upk 17 hb_ rfl rfl rfl), Q_HT, Q_HR, fun h0_ => absurd ((hon 16 (by kernel_rfl)).symm.trans h0_) (by decide), Q_R1, Q_HB⟩
      exact steps_nil
     rintro b a w' hall ⟨ha, Q_HT, Q_HR, Q_R0, Q_R1, Q_HB⟩
     clear HB HR HT R0
     have hb0_ := hall 0 (by kernel_rfl)
     have hb1_ := hall 1 (by kernel_rfl)
     have hb2_ := hall 2 (by kernel_rfl)
     have hb3_ := hall 3 (by kernel_rfl)
     have hb4_ := hall 4 (by kernel_rfl)
     have hb5_ := hall 5 (by kernel_rfl)
     have hb6_ := hall 6 (by kernel_rfl)
     have hb7_ := hall 7 (by kernel_rfl)
     have hb8_ := hall 8 (by kernel_rfl)
     have hb9_ := hall 9 (by kernel_rfl)
     have hb10_ := hall 10 (by kernel_rfl)
     have hb11_ := hall 11 (by kernel_rfl)
     have hb12_ := hall 12 (by kernel_rfl)
     have hb13_ := hall 13 (by kernel_rfl)
     have hb14_ := hall 14 (by kernel_rfl)
     have hb15_ := hall 15 (by kernel_rfl)
     have hb16_ := hall 16 (by kernel_rfl)
     have hb17_ := hall 17 (by kernel_rfl)
     have hb18_ := hall 18 (by kernel_rfl)
     subst ha
     simp only [putSel, hb0_, hb1_, hb2_, hb3_, hb4_, hb5_, hb6_, hb7_, hb8_, hb9_, hb10_, hb11_, hb12_, hb13_, hb14_, hb15_, hb16_, hb17_, hb18_, if_true, Act.put, List.setIfInBounds_toArray, List.set_cons_zero, List.set_cons_succ]
     have HT := Aside0.mk Q_HT
     clear Q_HT
     have HR := Aside0.mk Q_HR
     clear Q_HR Q_R0
     have R1 := Aside0.mk (Q_R1 hb16_)
     clear Q_R1
     have HB := Aside0.mk Q_HB
     clear Q_HB
     clear hall hb0_ hb1_ hb2_ hb3_ hb4_ hb5_ hb6_ hb7_ hb8_ hb9_ hb10_ hb11_ hb12_ hb13_ hb14_ hb15_ hb16_ hb17_ hb18_
     go_wp2
     (try simp only [Exit.inBlock, Exit.then])
     refine bodyPost_ret (results_cell2 rfl _ _ k4 89 _ _ _ rfl R1.out Try.underlying89 rfl (by kernel_rfl)) rfl ?_
     refine ⟨?_, HB.out⟩
     rw [show L.ms M n = mst s.b n by unfold LA.ms; rw [← HE.out, if_pos rfl, HS.out]]
     unfold mst
     rw [← HQ1.out, ← HQ2.out, ← HQ3.out, ← HQ4.out, ← HQ5.out, hq5.out, hqd.out, Bool.true_and, Bool.true_and]
     rfl
    ·have hqw := Aside0.mk (show (q1.1.toList == dock.toList) = false ∧ (q1.1.toList == [100, 111, 99, 107]) = false from ⟨by simp [hwd], by rw [show ([100, 111, 99, 107] : List UInt8) = dock.toList by decide +kernel]; simp [hwd]⟩)
     have hqd := Aside0.mk (show (q1.1.toList == dock.toList) = false from hqw.out.1)
     clear hwd
     refine start_ (n := 19) (S := fun w' => True) (ds := []) #[false, false, false, false, false, false, false, false, false, false, false, false, false, false, false, false, false, false, false] (by kernel_rfl) rfl rfl trivial (fun hHeld => ?_)
     refine with_tabW wlma10b.tab10 wlma10b.bits10 (fun HT_ HW_ => ?_)
     have n0_ := Aside0.mk (blk_drew HT.out)
     have n1_ := Aside0.mk (HR.out.drew)
     have n2_ := Aside0.mk (blk_drew R0.out)
     have n3_ := Aside0.mk (below_drew HB.out)
     clear HT HR R0 HB
     generalize World.drew _ = wd at n0_ n1_ n2_ n3_ hHeld ⊢
     have HT := n0_
     have HR := n1_
     have R0 := n2_
     have HB := n3_
     clear hHeld n0_ n1_ n2_ n3_
     refine inv_at [0, 1, 2, 3, 4, 5, 6, 7, 8, 9, 10, 11, 12, 13, 14, 15, 16, 17, 18] (fun a0_ b a w' => a = putSel a0_ b [(0, 49, .agg #[.pointer none, .int .i64 0, .int .i64 0, .int .u64 q2.1, .int .u64 q3.1, .int .u64 q4.1, .int .u64 q5.1, .int .u64 0, .int .u64 0]), (1, 50, .pointer (some ⟨gr, 0, none⟩)), (2, 51, .int .i64 q5.2.e), (3, 52, .bool true), (4, 53, .bool true), (5, 54, .string q1.1), (6, 55, .bool false), (7, 56, .bool false), (8, 57, .bool false), (9, 58, undef), (10, 59, undef), (11, 60, undef), (12, 61, undef), (13, 62, undef), (14, 63, undef), (15, 64, .bool false), (17, 5, .bool false), (18, 6, .int .i64 0)] ∧ (w'.heap[k11]? = some (.cells #[.pointer none, .int .i64 0, .int .i64 0, .int .u64 q2.1, .int .u64 q3.1, .int .u64 q4.1, .int .u64 q5.1, .int .u64 0, .int .u64 0] 89 (0, 0))) ∧ (Rdr wx w' gr q5.2) ∧ (b 16 = false → w'.heap[k4]? = some (.cells #[.pointer none, .int .i64 0, .int .i64 0, .int .u64 0, .int .u64 0, .int .u64 0, .int .u64 0, .int .u64 0, .int .u64 0] 89 (0, 0))) ∧ (b 16 = true → w'.heap[k4]? = some (.cells #[.pointer none, .int .i64 0, .int .i64 0, .int .u64 q2.1, .int .u64 q3.1, .int .u64 q4.1, .int .u64 q5.1, .int .u64 0, .int .u64 0] 89 (0, 0))) ∧ (Below w.heap.size w w')) HT_.out HW_.out (by kernel_rfl) (by kernel_rfl) ?_ ?_ ?_
     ·exact ⟨by simp only [putSel, Bool.false_eq_true, if_false], HT.out, HR.out, fun _ => R0.out, fun h_ => absurd h_ (by decide), HB.out⟩
     ·skip
      clear HB HR HT R0
      refine steps_cons ?_ ?_
      ·rintro b a w' ⟨ha, Q_HT, Q_HR, Q_R0, Q_R1, Q_HB⟩ hb_ hon hoff
       refine ⟨_, rfl, fun K hK => ?_⟩
       have e11 : a.tmps[11]? = some (.pointer (some ⟨k11, 0, none⟩)) := by rw [ha]; exact (putSel_off rfl).trans rfl
       replace ha := Aside0.mk ha
       have HT := Aside0.mk Q_HT
       have HR := Aside0.mk Q_HR
       have R0 := Aside0.mk (Q_R0 (hoff 16 (by kernel_rfl)))
       have HB := Aside0.mk Q_HB
       have hy0_ : w'.cell? ⟨k11, 0, none⟩ = some (.pointer none) := (blk_cell HT.out 0).trans rfl
       have hy1_ : w'.cell? ⟨k11, 1, none⟩ = some (.int .i64 0) := (blk_cell HT.out 1).trans rfl
       have hy2_ : w'.cell? ⟨k11, 2, none⟩ = some (.int .i64 0) := (blk_cell HT.out 2).trans rfl
       have hy3_ : w'.cell? ⟨k11, 3, none⟩ = some (.int .u64 q2.1) := (blk_cell HT.out 3).trans rfl
       have hy4_ : w'.cell? ⟨k11, 4, none⟩ = some (.int .u64 q3.1) := (blk_cell HT.out 4).trans rfl
       have hy5_ : w'.cell? ⟨k11, 5, none⟩ = some (.int .u64 q4.1) := (blk_cell HT.out 5).trans rfl
       have hy6_ : w'.cell? ⟨k11, 6, none⟩ = some (.int .u64 q5.1) := (blk_cell HT.out 6).trans rfl
       have hy7_ : w'.cell? ⟨k11, 7, none⟩ = some (.int .u64 0) := (blk_cell HT.out 7).trans rfl
       have hy8_ : w'.cell? ⟨k11, 8, none⟩ = some (.int .u64 0) := (blk_cell HT.out 8).trans rfl
       refine value_ (w1 := w') (v := .agg #[.pointer none, .int .i64 0, .int .i64 0, .int .u64 q2.1, .int .u64 q3.1, .int .u64 q4.1, .int .u64 q5.1, .int .u64 0, .int .u64 0]) (by rfl) rfl ?_ ?_
       ·go_simp
        (try simp only [i64_w])
        try rfl
       refine hK.out _ _ ⟨(by rw [ha.out]; exact putSel_upk 0 hb_ rfl rfl rfl), Q_HT, Q_HR, Q_R0, fun h0_ => absurd ((hoff 16 (by kernel_rfl)).symm.trans h0_) (by decide), Q_HB⟩
      refine steps_cons ?_ ?_
      ·rintro b a w' ⟨ha, Q_HT, Q_HR, Q_R0, Q_R1, Q_HB⟩ hb_ hon hoff
       refine ⟨_, rfl, fun K hK => ?_⟩
       have e9 : a.tmps[9]? = some (.pointer (some ⟨gr, 0, none⟩)) := by rw [ha]; exact (putSel_off rfl).trans rfl
       replace ha := Aside0.mk ha
       have HT := Aside0.mk Q_HT
       have HR := Aside0.mk Q_HR
       have R0 := Aside0.mk (Q_R0 (hoff 16 (by kernel_rfl)))
       have HB := Aside0.mk Q_HB
       refine value_ (w1 := w') (v := .pointer (some ⟨gr, 0, none⟩)) (by rfl) rfl ?_ ?_
       ·go_simp
        (try simp only [i64_w])
        try rfl
       refine hK.out _ _ ⟨(by rw [ha.out]; exact putSel_upk 1 hb_ rfl rfl rfl), Q_HT, Q_HR, Q_R0, fun h0_ => absurd ((hoff 16 (by kernel_rfl)).symm.trans h0_) (by decide), Q_HB⟩
      refine steps_cons ?_ ?_
      ·rintro b a w' ⟨ha, Q_HT, Q_HR, Q_R0, Q_R1, Q_HB⟩ hb_ hon hoff
       refine ⟨_, rfl, fun K hK => ?_⟩
       have e50 : a.tmps[50]? = some (.pointer (some ⟨gr, 0, none⟩)) := by rw [ha]; exact putSel_on (e := (1, 50, .pointer (some ⟨gr, 0, none⟩))) 1 rfl rfl (hon 1 (by kernel_rfl)) rfl
       replace ha := Aside0.mk ha
       have HT := Aside0.mk Q_HT
       have HR := Aside0.mk Q_HR
       have R0 := Aside0.mk (Q_R0 (hoff 16 (by kernel_rfl)))
       have HB := Aside0.mk Q_HB
       refine goes_ Try.func63 (by kernel_rfl) rfl #[.pointer (some ⟨gr, 0, none⟩)] (by rfl) rfl rfl (by first | (simp only [List.map_toArray, List.map_cons, List.map_nil, Act.eval, Array.getD_eq_getD_getElem?, Option.getD_some, e50]; done) | (simp only [List.map_toArray, List.map_cons, List.map_nil, Act.eval, Array.getD_eq_getD_getElem?, Option.getD_some, e50]; rfl)) ?_
       refine (rd_err HR.out).mono ?_
       rintro e_ wn_ ⟨rfl, rfl⟩
       refine ⟨_, rfl, ?_⟩
       refine hK.out _ _ ⟨(by rw [ha.out]; exact putSel_upk 2 hb_ rfl rfl rfl), HT.out, HR.out, fun _ => R0.out, fun h0_ => absurd ((hoff 16 (by kernel_rfl)).symm.trans h0_) (by decide), HB.out⟩
      refine steps_cons ?_ ?_
      ·rintro b a w' ⟨ha, Q_HT, Q_HR, Q_R0, Q_R1, Q_HB⟩ hb_ hon hoff
       refine ⟨_, rfl, fun K hK => ?_⟩
       have e51 : a.tmps[51]? = some (.int .i64 q5.2.e) := by rw [ha]; exact putSel_on (e := (2, 51, .int .i64 q5.2.e)) 2 rfl rfl (hon 2 (by kernel_rfl)) rfl
       replace ha := Aside0.mk ha
       have HT := Aside0.mk Q_HT
       have HR := Aside0.mk Q_HR
       have R0 := Aside0.mk (Q_R0 (hoff 16 (by kernel_rfl)))
       have HB := Aside0.mk Q_HB
       have hq_ := hq5.out
       refine value_ (w1 := w') (v := .bool true) (by rfl) rfl ?_ ?_
       ·go_simp
        (try simp only [i64_w])
        try rfl
       refine hK.out _ _ ⟨(by rw [ha.out]; exact putSel_upk 3 hb_ rfl rfl rfl), Q_HT, Q_HR, Q_R0, fun h0_ => absurd ((hoff 16 (by kernel_rfl)).symm.trans h0_) (by decide), Q_HB⟩
      refine steps_cons ?_ ?_
      ·rintro b a w' ⟨ha, Q_HT, Q_HR, Q_R0, Q_R1, Q_HB⟩ hb_ hon hoff
       refine ⟨_, rfl, fun K hK => ?_⟩
       have e52 : a.tmps[52]? = some (.bool true) := by rw [ha]; exact putSel_on (e := (3, 52, .bool true)) 3 rfl rfl (hon 3 (by kernel_rfl)) rfl
       replace ha := Aside0.mk ha
       have HT := Aside0.mk Q_HT
       have HR := Aside0.mk Q_HR
       have R0 := Aside0.mk (Q_R0 (hoff 16 (by kernel_rfl)))
       have HB := Aside0.mk Q_HB
       refine value_ (w1 := w') (v := .bool true) (by rfl) rfl ?_ ?_
       ·go_simp
        (try simp only [i64_w])
        try rfl
       refine hK.out _ _ ⟨(by rw [ha.out]; exact putSel_upk 4 hb_ rfl rfl rfl), Q_HT, Q_HR, Q_R0, fun h0_ => absurd ((hoff 16 (by kernel_rfl)).symm.trans h0_) (by decide), Q_HB⟩
      refine steps_cons ?_ ?_
      ·rintro b a w' ⟨ha, Q_HT, Q_HR, Q_R0, Q_R1, Q_HB⟩ hb_ hon hoff
       refine ⟨_, rfl, fun K hK => ?_⟩
       have e10 : a.tmps[10]? = some (.string q1.1) := by rw [ha]; exact (putSel_off rfl).trans rfl
       have e53 : a.tmps[53]? = some (.bool true) := by rw [ha]; exact putSel_on (e := (4, 53, .bool true)) 4 rfl rfl (hon 4 (by kernel_rfl)) rfl
       replace ha := Aside0.mk ha
       have HT := Aside0.mk Q_HT
       have HR := Aside0.mk Q_HR
       have R0 := Aside0.mk (Q_R0 (hoff 16 (by kernel_rfl)))
       have HB := Aside0.mk Q_HB
       refine value_ (w1 := w') (v := .string q1.1) (wanted_on rfl rfl rfl (e53.trans (by first | rfl | (simp [*]; done)))) rfl ?_ ?_
       ·go_simp
        (try simp only [i64_w])
        try rfl
       refine hK.out _ _ ⟨(by rw [ha.out]; exact putSel_upk 5 hb_ rfl rfl rfl), Q_HT, Q_HR, Q_R0, fun h0_ => absurd ((hoff 16 (by kernel_rfl)).symm.trans h0_) (by decide), Q_HB⟩
      refine steps_cons ?_ ?_
      ·rintro b a w' ⟨ha, Q_HT, Q_HR, Q_R0, Q_R1, Q_HB⟩ hb_ hon hoff
       refine ⟨_, rfl, fun K hK => ?_⟩
       have e54 : a.tmps[54]? = some (.string q1.1) := by rw [ha]; exact putSel_on (e := (5, 54, .string q1.1)) 5 rfl rfl (hon 5 (by kernel_rfl)) rfl
       have e53 : a.tmps[53]? = some (.bool true) := by rw [ha]; exact putSel_on (e := (4, 53, .bool true)) 4 rfl rfl (hon 4 (by kernel_rfl)) rfl
       replace ha := Aside0.mk ha
       have HT := Aside0.mk Q_HT
       have HR := Aside0.mk Q_HR
       have R0 := Aside0.mk (Q_R0 (hoff 16 (by kernel_rfl)))
       have HB := Aside0.mk Q_HB
       have hq_ := hqw.out.1
       have hq2_ := hqw.out.2
       refine value_ (w1 := w') (v := .bool false) (wanted_on rfl rfl rfl (e53.trans (by first | rfl | (simp [*]; done)))) rfl ?_ ?_
       ·go_simp
        (try simp only [i64_w])
        try rfl
       refine hK.out _ _ ⟨(by rw [ha.out]; exact putSel_upk 6 hb_ rfl rfl rfl), Q_HT, Q_HR, Q_R0, fun h0_ => absurd ((hoff 16 (by kernel_rfl)).symm.trans h0_) (by decide), Q_HB⟩
      refine steps_cons ?_ ?_
      ·rintro b a w' ⟨ha, Q_HT, Q_HR, Q_R0, Q_R1, Q_HB⟩ hb_ hon hoff
       refine ⟨_, rfl, fun K hK => ?_⟩
       have e53 : a.tmps[53]? = some (.bool true) := by rw [ha]; exact putSel_on (e := (4, 53, .bool true)) 4 rfl rfl (hon 4 (by kernel_rfl)) rfl
       have e55 : a.tmps[55]? = some (.bool false) := by rw [ha]; exact putSel_on (e := (6, 55, .bool false)) 6 rfl rfl (hon 6 (by kernel_rfl)) rfl
       replace ha := Aside0.mk ha
       have HT := Aside0.mk Q_HT
       have HR := Aside0.mk Q_HR
       have R0 := Aside0.mk (Q_R0 (hoff 16 (by kernel_rfl)))
       have HB := Aside0.mk Q_HB
       refine value_ (w1 := w') (v := .bool false) (by rfl) rfl ?_ ?_
       ·go_simp
        (try simp only [i64_w])
        try rfl
       refine hK.out _ _ ⟨(by rw [ha.out]; exact putSel_upk 7 hb_ rfl rfl rfl), Q_HT, Q_HR, Q_R0, fun h0_ => absurd ((hoff 16 (by kernel_rfl)).symm.trans h0_) (by decide), Q_HB⟩
      refine steps_cons ?_ ?_
      ·rintro b a w' ⟨ha, Q_HT, Q_HR, Q_R0, Q_R1, Q_HB⟩ hb_ hon hoff
       refine ⟨_, rfl, fun K hK => ?_⟩
       have e56 : a.tmps[56]? = some (.bool false) := by rw [ha]; exact putSel_on (e := (7, 56, .bool false)) 7 rfl rfl (hon 7 (by kernel_rfl)) rfl
       replace ha := Aside0.mk ha
       have HT := Aside0.mk Q_HT
       have HR := Aside0.mk Q_HR
       have R0 := Aside0.mk (Q_R0 (hoff 16 (by kernel_rfl)))
       have HB := Aside0.mk Q_HB
       refine value_ (w1 := w') (v := .bool false) (by rfl) rfl ?_ ?_
       ·go_simp
        (try simp only [i64_w])
        try rfl
       refine hK.out _ _ ⟨(by rw [ha.out]; exact putSel_upk 8 hb_ rfl rfl rfl), Q_HT, Q_HR, Q_R0, fun h0_ => absurd ((hoff 16 (by kernel_rfl)).symm.trans h0_) (by decide), Q_HB⟩
      refine steps_cons ?_ ?_
      ·rintro b a w' ⟨ha, Q_HT, Q_HR, Q_R0, Q_R1, Q_HB⟩ hb_ hon hoff
       refine ⟨_, rfl, fun K hK => ?_⟩
       have e57 : a.tmps[57]? = some (.bool false) := by rw [ha]; exact putSel_on (e := (8, 57, .bool false)) 8 rfl rfl (hon 8 (by kernel_rfl)) rfl
       replace ha := Aside0.mk ha
       have HT := Aside0.mk Q_HT
       have HR := Aside0.mk Q_HR
       have HB := Aside0.mk Q_HB
       refine off_ (wanted_off rfl rfl rfl (e57.trans (by first | rfl | (simp [*]; done)))) ?_
       refine hK.out _ _ ⟨(by rw [ha.out]; exact putSel_upk 9 hb_ rfl rfl rfl), Q_HT, Q_HR, Q_R0, Q_R1, Q_HB⟩
      refine steps_cons ?_ ?_
      ·rintro b a w' ⟨ha, Q_HT, Q_HR, Q_R0, Q_R1, Q_HB⟩ hb_ hon hoff
       refine ⟨_, rfl, fun K hK => ?_⟩
       have e57 : a.tmps[57]? = some (.bool false) := by rw [ha]; exact putSel_on (e := (8, 57, .bool false)) 8 rfl rfl (hon 8 (by kernel_rfl)) rfl
       replace ha := Aside0.mk ha
       have HT := Aside0.mk Q_HT
       have HR := Aside0.mk Q_HR
       have HB := Aside0.mk Q_HB
       have hy3_ : w'.cell? ⟨k11, 3, none⟩ = some (.int .u64 q2.1) := (blk_cell HT.out 3).trans rfl
       refine off_ (wanted_off rfl rfl rfl (e57.trans (by first | rfl | (simp [*]; done)))) ?_
       refine hK.out _ _ ⟨(by rw [ha.out]; exact putSel_upk 10 hb_ rfl rfl rfl), Q_HT, Q_HR, Q_R0, Q_R1, Q_HB⟩
      refine steps_cons ?_ ?_
      ·rintro b a w' ⟨ha, Q_HT, Q_HR, Q_R0, Q_R1, Q_HB⟩ hb_ hon hoff
       refine ⟨_, rfl, fun K hK => ?_⟩
       have e57 : a.tmps[57]? = some (.bool false) := by rw [ha]; exact putSel_on (e := (8, 57, .bool false)) 8 rfl rfl (hon 8 (by kernel_rfl)) rfl
       replace ha := Aside0.mk ha
       have HT := Aside0.mk Q_HT
       have HR := Aside0.mk Q_HR
       have HB := Aside0.mk Q_HB
       have hm_ := hmod.out
       refine off_ (wanted_off rfl rfl rfl (e57.trans (by first | rfl | (simp [*]; done)))) ?_
       refine hK.out _ _ ⟨(by rw [ha.out]; exact putSel_upk 11 hb_ rfl rfl rfl), Q_HT, Q_HR, Q_R0, Q_R1, Q_HB⟩
      refine steps_cons ?_ ?_
      ·rintro b a w' ⟨ha, Q_HT, Q_HR, Q_R0, Q_R1, Q_HB⟩ hb_ hon hoff
       refine ⟨_, rfl, fun K hK => ?_⟩
       have e57 : a.tmps[57]? = some (.bool false) := by rw [ha]; exact putSel_on (e := (8, 57, .bool false)) 8 rfl rfl (hon 8 (by kernel_rfl)) rfl
       replace ha := Aside0.mk ha
       have HT := Aside0.mk Q_HT
       have HR := Aside0.mk Q_HR
       have HB := Aside0.mk Q_HB
       refine off_ (wanted_off rfl rfl rfl (e57.trans (by first | rfl | (simp [*]; done)))) ?_
       refine hK.out _ _ ⟨(by rw [ha.out]; exact putSel_upk 12 hb_ rfl rfl rfl), Q_HT, Q_HR, Q_R0, Q_R1, Q_HB⟩
      refine steps_cons ?_ ?_
      ·rintro b a w' ⟨ha, Q_HT, Q_HR, Q_R0, Q_R1, Q_HB⟩ hb_ hon hoff
       refine ⟨_, rfl, fun K hK => ?_⟩
       have e57 : a.tmps[57]? = some (.bool false) := by rw [ha]; exact putSel_on (e := (8, 57, .bool false)) 8 rfl rfl (hon 8 (by kernel_rfl)) rfl
       replace ha := Aside0.mk ha
       have HT := Aside0.mk Q_HT
       have HR := Aside0.mk Q_HR
       have HB := Aside0.mk Q_HB
       have hw_ := hwu.out
       refine off_ (wanted_off rfl rfl rfl (e57.trans (by first | rfl | (simp [*]; done)))) ?_
       refine hK.out _ _ ⟨(by rw [ha.out]; exact putSel_upk 13 hb_ rfl rfl rfl), Q_HT, Q_HR, Q_R0, Q_R1, Q_HB⟩
      refine steps_cons ?_ ?_
      ·rintro b a w' ⟨ha, Q_HT, Q_HR, Q_R0, Q_R1, Q_HB⟩ hb_ hon hoff
       refine ⟨_, rfl, fun K hK => ?_⟩
       have e57 : a.tmps[57]? = some (.bool false) := by rw [ha]; exact putSel_on (e := (8, 57, .bool false)) 8 rfl rfl (hon 8 (by kernel_rfl)) rfl
       replace ha := Aside0.mk ha
       have HT := Aside0.mk Q_HT
       have HR := Aside0.mk Q_HR
       have HB := Aside0.mk Q_HB
       refine off_ (wanted_off rfl rfl rfl (e57.trans (by first | rfl | (simp [*]; done)))) ?_
       refine hK.out _ _ ⟨(by rw [ha.out]; exact putSel_upk 14 hb_ rfl rfl rfl), Q_HT, Q_HR, Q_R0, Q_R1, Q_HB⟩
      refine steps_cons ?_ ?_
      ·rintro b a w' ⟨ha, Q_HT, Q_HR, Q_R0, Q_R1, Q_HB⟩ hb_ hon hoff
       refine ⟨_, rfl, fun K hK => ?_⟩
       have e57 : a.tmps[57]? = some (.bool false) := by rw [ha]; exact putSel_on (e := (8, 57, .bool false)) 8 rfl rfl (hon 8 (by kernel_rfl)) rfl
       have e63 : a.tmps[63]? = some (undef) := by rw [ha]; exact putSel_on (e := (14, 63, undef)) 14 rfl rfl (hon 14 (by kernel_rfl)) rfl
       replace ha := Aside0.mk ha
       have HT := Aside0.mk Q_HT
       have HR := Aside0.mk Q_HR
       have HB := Aside0.mk Q_HB
       refine value_ (w1 := w') (v := .bool false) (by rfl) rfl ?_ ?_
       ·go_simp
        (try simp only [i64_w])
        try rfl
       refine hK.out _ _ ⟨(by rw [ha.out]; exact putSel_upk 15 hb_ rfl rfl rfl), Q_HT, Q_HR, Q_R0, Q_R1, Q_HB⟩
      refine steps_cons ?_ ?_
      ·rintro b a w' ⟨ha, Q_HT, Q_HR, Q_R0, Q_R1, Q_HB⟩ hb_ hon hoff
       refine ⟨_, rfl, fun K hK => ?_⟩
       have e4 : a.tmps[4]? = some (.pointer (some ⟨k4, 0, none⟩)) := by rw [ha]; exact (putSel_off rfl).trans rfl
       have e49 : a.tmps[49]? = some (.agg #[.pointer none, .int .i64 0, .int .i64 0, .int .u64 q2.1, .int .u64 q3.1, .int .u64 q4.1, .int .u64 q5.1, .int .u64 0, .int .u64 0]) := by rw [ha]; exact putSel_on (e := (0, 49, .agg #[.pointer none, .int .i64 0, .int .i64 0, .int .u64 q2.1, .int .u64 q3.1, .int .u64 q4.1, .int .u64 q5.1, .int .u64 0, .int .u64 0])) 0 rfl rfl (hon 0 (by kernel_rfl)) rfl
       replace ha := Aside0.mk ha
       have HT := Aside0.mk Q_HT
       have HR := Aside0.mk Q_HR
       have R0 := Aside0.mk (Q_R0 hb_)
       have HB := Aside0.mk Q_HB
       have hz0_ : w'.cell? ⟨k4, 0, none⟩ = some (.pointer none) := (blk_cell R0.out 0).trans rfl
       have hz1_ : w'.cell? ⟨k4, 1, none⟩ = some (.int .i64 0) := (blk_cell R0.out 1).trans rfl
       have hz2_ : w'.cell? ⟨k4, 2, none⟩ = some (.int .i64 0) := (blk_cell R0.out 2).trans rfl
       have hz3_ : w'.cell? ⟨k4, 3, none⟩ = some (.int .u64 0) := (blk_cell R0.out 3).trans rfl
       have hz4_ : w'.cell? ⟨k4, 4, none⟩ = some (.int .u64 0) := (blk_cell R0.out 4).trans rfl
       have hz5_ : w'.cell? ⟨k4, 5, none⟩ = some (.int .u64 0) := (blk_cell R0.out 5).trans rfl
       have hz6_ : w'.cell? ⟨k4, 6, none⟩ = some (.int .u64 0) := (blk_cell R0.out 6).trans rfl
       have hz7_ : w'.cell? ⟨k4, 7, none⟩ = some (.int .u64 0) := (blk_cell R0.out 7).trans rfl
       have hz8_ : w'.cell? ⟨k4, 8, none⟩ = some (.int .u64 0) := (blk_cell R0.out 8).trans rfl
       have hf0_ : w'.frozen? ⟨k4, 0, none⟩ = false := blk_frozen R0.out 0
       have hf1_ : w'.frozen? ⟨k4, 1, none⟩ = false := blk_frozen R0.out 1
       have hf2_ : w'.frozen? ⟨k4, 2, none⟩ = false := blk_frozen R0.out 2
       have hf3_ : w'.frozen? ⟨k4, 3, none⟩ = false := blk_frozen R0.out 3
       have hf4_ : w'.frozen? ⟨k4, 4, none⟩ = false := blk_frozen R0.out 4
       have hf5_ : w'.frozen? ⟨k4, 5, none⟩ = false := blk_frozen R0.out 5
       have hf6_ : w'.frozen? ⟨k4, 6, none⟩ = false := blk_frozen R0.out 6
       have hf7_ : w'.frozen? ⟨k4, 7, none⟩ = false := blk_frozen R0.out 7
       have hf8_ : w'.frozen? ⟨k4, 8, none⟩ = false := blk_frozen R0.out 8
       refine skip_ (w1 := (((((((((w'.setCell ⟨k4, 0, none⟩ (.pointer none)).setCell ⟨k4, 1, none⟩ (.int .i64 0)).setCell ⟨k4, 2, none⟩ (.int .i64 0)).setCell ⟨k4, 3, none⟩ (.int .u64 q2.1)).setCell ⟨k4, 4, none⟩ (.int .u64 q3.1)).setCell ⟨k4, 5, none⟩ (.int .u64 q4.1)).setCell ⟨k4, 6, none⟩ (.int .u64 q5.1)).setCell ⟨k4, 7, none⟩ (.int .u64 0)).setCell ⟨k4, 8, none⟩ (.int .u64 0))) (by rfl) rfl ?_ ?_
       ·go_simp
        try rfl
       refine hK.out _ _ ⟨(by rw [ha.out]; exact putSel_none (v := undef) rfl), (blk_far (blk_far (blk_far (blk_far (blk_far (blk_far (blk_far (blk_far (blk_far HT.out (p := ⟨k4, 0, none⟩) hne11.out _) (p := ⟨k4, 1, none⟩) hne11.out _) (p := ⟨k4, 2, none⟩) hne11.out _) (p := ⟨k4, 3, none⟩) hne11.out _) (p := ⟨k4, 4, none⟩) hne11.out _) (p := ⟨k4, 5, none⟩) hne11.out _) (p := ⟨k4, 6, none⟩) hne11.out _) (p := ⟨k4, 7, none⟩) hne11.out _) (p := ⟨k4, 8, none⟩) hne11.out _), (IsS107.far (IsS107.far (IsS107.far (IsS107.far (IsS107.far (IsS107.far (IsS107.far (IsS107.far (IsS107.far HR.out (p := ⟨k4, 0, none⟩) hneR.out _) (p := ⟨k4, 1, none⟩) hneR.out _) (p := ⟨k4, 2, none⟩) hneR.out _) (p := ⟨k4, 3, none⟩) hneR.out _) (p := ⟨k4, 4, none⟩) hneR.out _) (p := ⟨k4, 5, none⟩) hneR.out _) (p := ⟨k4, 6, none⟩) hneR.out _) (p := ⟨k4, 7, none⟩) hneR.out _) (p := ⟨k4, 8, none⟩) hneR.out _), fun h0_ => absurd ((up_self b 16).symm.trans h0_) (by decide), fun _ => (blk_put (blk_put (blk_put (blk_put (blk_put (blk_put (blk_put (blk_put (blk_put R0.out 0 _ rfl) 1 _ rfl) 2 _ rfl) 3 _ rfl) 4 _ rfl) 5 _ rfl) 6 _ rfl) 7 _ rfl) 8 _ rfl), (below_set (below_set (below_set (below_set (below_set (below_set (below_set (below_set (below_set HB.out HK4.out) HK4.out) HK4.out) HK4.out) HK4.out) HK4.out) HK4.out) HK4.out) HK4.out)⟩
      refine steps_cons ?_ ?_
      ·rintro b a w' ⟨ha, Q_HT, Q_HR, Q_R0, Q_R1, Q_HB⟩ hb_ hon hoff
       refine ⟨_, rfl, fun K hK => ?_⟩
       have e64 : a.tmps[64]? = some (.bool false) := by rw [ha]; exact putSel_on (e := (15, 64, .bool false)) 15 rfl rfl (hon 15 (by kernel_rfl)) rfl
       replace ha := Aside0.mk ha
       have HT := Aside0.mk Q_HT
       have HR := Aside0.mk Q_HR
       have R1 := Aside0.mk (Q_R1 (hon 16 (by kernel_rfl)))
       have HB := Aside0.mk Q_HB
       refine value_ (w1 := w') (v := .bool false) (by rfl) rfl ?_ ?_
       ·go_simp
        (try simp only [i64_w])
        try rfl
       refine hK.out _ _ ⟨(by rw [ha.out]; exact putSel_upk 16 hb_ rfl rfl rfl), Q_HT, Q_HR, fun h0_ => absurd ((hon 16 (by kernel_rfl)).symm.trans h0_) (by decide), Q_R1, Q_HB⟩
      refine steps_cons ?_ ?_
      ·rintro b a w' ⟨ha, Q_HT, Q_HR, Q_R0, Q_R1, Q_HB⟩ hb_ hon hoff
       refine ⟨_, rfl, fun K hK => ?_⟩
       replace ha := Aside0.mk ha
       have HT := Aside0.mk Q_HT
       have HR := Aside0.mk Q_HR
       have R1 := Aside0.mk (Q_R1 (hon 16 (by kernel_rfl)))
       have HB := Aside0.mk Q_HB
       refine value_ (w1 := w') (v := .int .i64 0) (by rfl) rfl ?_ ?_
       ·go_simp
        (try simp only [i64_w])
        try rfl
       refine hK.out _ _ ⟨(by rw [ha.out]; exact putSel_upk 17 hb_ rfl rfl rfl), Q_HT, Q_HR, fun h0_ => absurd ((hon 16 (by kernel_rfl)).symm.trans h0_) (by decide), Q_R1, Q_HB⟩
      exact steps_nil
     rintro b a w' hall ⟨ha, Q_HT, Q_HR, Q_R0, Q_R1, Q_HB⟩
     clear HB HR HT R0
     have hb0_ := hall 0 (by kernel_rfl)
     have hb1_ := hall 1 (by kernel_rfl)
     have hb2_ := hall 2 (by kernel_rfl)
     have hb3_ := hall 3 (by kernel_rfl)
     have hb4_ := hall 4 (by kernel_rfl)
     have hb5_ := hall 5 (by kernel_rfl)
     have hb6_ := hall 6 (by kernel_rfl)
     have hb7_ := hall 7 (by kernel_rfl)
     have hb8_ := hall 8 (by kernel_rfl)
     have hb9_ := hall 9 (by kernel_rfl)
     have hb10_ := hall 10 (by kernel_rfl)
     have hb11_ := hall 11 (by kernel_rfl)
     have hb12_ := hall 12 (by kernel_rfl)
     have hb13_ := hall 13 (by kernel_rfl)
     have hb14_ := hall 14 (by kernel_rfl)
     have hb15_ := hall 15 (by kernel_rfl)
     have hb16_ := hall 16 (by kernel_rfl)
     have hb17_ := hall 17 (by kernel_rfl)
     have hb18_ := hall 18 (by kernel_rfl)
     subst ha
     simp only [putSel, hb0_, hb1_, hb2_, hb3_, hb4_, hb5_, hb6_, hb7_, hb8_, hb9_, hb10_, hb11_, hb12_, hb13_, hb14_, hb15_, hb16_, hb17_, hb18_, if_true, Act.put, List.setIfInBounds_toArray, List.set_cons_zero, List.set_cons_succ]
     have HT := Aside0.mk Q_HT
     clear Q_HT
     have HR := Aside0.mk Q_HR
     clear Q_HR Q_R0
     have R1 := Aside0.mk (Q_R1 hb16_)
     clear Q_R1
     have HB := Aside0.mk Q_HB
     clear Q_HB
     clear hall hb0_ hb1_ hb2_ hb3_ hb4_ hb5_ hb6_ hb7_ hb8_ hb9_ hb10_ hb11_ hb12_ hb13_ hb14_ hb15_ hb16_ hb17_ hb18_
     go_wp2
     (try simp only [Exit.inBlock, Exit.then])
     refine bodyPost_ret (results_cell2 rfl _ _ k4 89 _ _ _ rfl R1.out Try.underlying89 rfl (by kernel_rfl)) rfl ?_
     refine ⟨?_, HB.out⟩
     rw [show L.ms M n = mst s.b n by unfold LA.ms; rw [← HE.out, if_pos rfl, HS.out]]
     unfold mst
     rw [← HQ1.out, ← HQ2.out, ← HQ3.out, ← HQ4.out, ← HQ5.out, hq5.out, hqd.out, Bool.true_and, Bool.false_and]
     rfl
   ·have hq5 := Aside0.mk (show (q5.2.e == 0) = false by simp [he4])
    clear he4
    refine start_ (n := 19) (S := fun w' => True) (ds := []) #[false, false, false, false, false, false, false, false, false, false, false, false, false, false, false, false, false, false, false] (by kernel_rfl) rfl rfl trivial (fun hHeld => ?_)
    refine with_tabW wlma10a.tab10 wlma10a.bits10 (fun HT_ HW_ => ?_)
    have n0_ := Aside0.mk (blk_drew HT.out)
    have n1_ := Aside0.mk (HR.out.drew)
    have n2_ := Aside0.mk (blk_drew R0.out)
    have n3_ := Aside0.mk (below_drew HB.out)
    clear HT HR R0 HB
    generalize World.drew _ = wd at n0_ n1_ n2_ n3_ hHeld ⊢
    have HT := n0_
    have HR := n1_
    have R0 := n2_
    have HB := n3_
    clear hHeld n0_ n1_ n2_ n3_
    refine inv_at [0, 1, 2, 3, 4, 5, 6, 7, 8, 9, 10, 11, 12, 13, 14, 15, 16, 17, 18] (fun a0_ b a w' => a = putSel a0_ b [(0, 49, .agg #[.pointer none, .int .i64 0, .int .i64 0, .int .u64 q2.1, .int .u64 q3.1, .int .u64 q4.1, .int .u64 q5.1, .int .u64 0, .int .u64 0]), (1, 50, .pointer (some ⟨gr, 0, none⟩)), (2, 51, .int .i64 q5.2.e), (3, 52, .bool false), (4, 53, .bool false), (5, 54, undef), (6, 55, undef), (7, 56, .bool false), (8, 57, .bool false), (9, 58, undef), (10, 59, undef), (11, 60, undef), (12, 61, undef), (13, 62, undef), (14, 63, undef), (15, 64, .bool false), (17, 5, .bool false), (18, 6, .int .i64 0)] ∧ (w'.heap[k11]? = some (.cells #[.pointer none, .int .i64 0, .int .i64 0, .int .u64 q2.1, .int .u64 q3.1, .int .u64 q4.1, .int .u64 q5.1, .int .u64 0, .int .u64 0] 89 (0, 0))) ∧ (Rdr wx w' gr q5.2) ∧ (b 16 = false → w'.heap[k4]? = some (.cells #[.pointer none, .int .i64 0, .int .i64 0, .int .u64 0, .int .u64 0, .int .u64 0, .int .u64 0, .int .u64 0, .int .u64 0] 89 (0, 0))) ∧ (b 16 = true → w'.heap[k4]? = some (.cells #[.pointer none, .int .i64 0, .int .i64 0, .int .u64 q2.1, .int .u64 q3.1, .int .u64 q4.1, .int .u64 q5.1, .int .u64 0, .int .u64 0] 89 (0, 0))) ∧ (Below w.heap.size w w')) HT_.out HW_.out (by kernel_rfl) (by kernel_rfl) ?_ ?_ ?_
    ·exact ⟨by simp only [putSel, Bool.false_eq_true, if_false], HT.out, HR.out, fun _ => R0.out, fun h_ => absurd h_ (by decide), HB.out⟩
    ·skip
     clear HB HR HT R0
     refine steps_cons ?_ ?_
     ·rintro b a w' ⟨ha, Q_HT, Q_HR, Q_R0, Q_R1, Q_HB⟩ hb_ hon hoff
      refine ⟨_, rfl, fun K hK => ?_⟩
      have e11 : a.tmps[11]? = some (.pointer (some ⟨k11, 0, none⟩)) := by rw [ha]; exact (putSel_off rfl).trans rfl
      replace ha := Aside0.mk ha
      have HT := Aside0.mk Q_HT
      have HR := Aside0.mk Q_HR
      have R0 := Aside0.mk (Q_R0 (hoff 16 (by kernel_rfl)))
      have HB := Aside0.mk Q_HB
      have hy0_ : w'.cell? ⟨k11, 0, none⟩ = some (.pointer none) := (blk_cell HT.out 0).trans rfl
      have hy1_ : w'.cell? ⟨k11, 1, none⟩ = some (.int .i64 0) := (blk_cell HT.out 1).trans rfl
      have hy2_ : w'.cell? ⟨k11, 2, none⟩ = some (.int .i64 0) := (blk_cell HT.out 2).trans rfl
      have hy3_ : w'.cell? ⟨k11, 3, none⟩ = some (.int .u64 q2.1) := (blk_cell HT.out 3).trans rfl
      have hy4_ : w'.cell? ⟨k11, 4, none⟩ = some (.int .u64 q3.1) := (blk_cell HT.out 4).trans rfl
      have hy5_ : w'.cell? ⟨k11, 5, none⟩ = some (.int .u64 q4.1) := (blk_cell HT.out 5).trans rfl
      have hy6_ : w'.cell? ⟨k11, 6, none⟩ = some (.int .u64 q5.1) := (blk_cell HT.out 6).trans rfl
      have hy7_ : w'.cell? ⟨k11, 7, none⟩ = some (.int .u64 0) := (blk_cell HT.out 7).trans rfl
      have hy8_ : w'.cell? ⟨k11, 8, none⟩ = some (.int .u64 0) := (blk_cell HT.out 8).trans rfl
      refine value_ (w1 := w') (v := .agg #[.pointer none, .int .i64 0, .int .i64 0, .int .u64 q2.1, .int .u64 q3.1, .int .u64 q4.1, .int .u64 q5.1, .int .u64 0, .int .u64 0]) (by rfl) rfl ?_ ?_
      ·go_simp
       (try simp only [i64_w])
       try rfl
      refine hK.out _ _ ⟨(by rw [ha.out]; exact putSel_upk 0 hb_ rfl rfl rfl), Q_HT, Q_HR, Q_R0, fun h0_ => absurd ((hoff 16 (by kernel_rfl)).symm.trans h0_) (by decide), Q_HB⟩
     refine steps_cons ?_ ?_
     ·rintro b a w' ⟨ha, Q_HT, Q_HR, Q_R0, Q_R1, Q_HB⟩ hb_ hon hoff
      refine ⟨_, rfl, fun K hK => ?_⟩
      have e9 : a.tmps[9]? = some (.pointer (some ⟨gr, 0, none⟩)) := by rw [ha]; exact (putSel_off rfl).trans rfl
      replace ha := Aside0.mk ha
      have HT := Aside0.mk Q_HT
      have HR := Aside0.mk Q_HR
      have R0 := Aside0.mk (Q_R0 (hoff 16 (by kernel_rfl)))
      have HB := Aside0.mk Q_HB
      refine value_ (w1 := w') (v := .pointer (some ⟨gr, 0, none⟩)) (by rfl) rfl ?_ ?_
      ·go_simp
       (try simp only [i64_w])
       try rfl
      refine hK.out _ _ ⟨(by rw [ha.out]; exact putSel_upk 1 hb_ rfl rfl rfl), Q_HT, Q_HR, Q_R0, fun h0_ => absurd ((hoff 16 (by kernel_rfl)).symm.trans h0_) (by decide), Q_HB⟩
     refine steps_cons ?_ ?_
     ·rintro b a w' ⟨ha, Q_HT, Q_HR, Q_R0, Q_R1, Q_HB⟩ hb_ hon hoff
      refine ⟨_, rfl, fun K hK => ?_⟩
      have e50 : a.tmps[50]? = some (.pointer (some ⟨gr, 0, none⟩)) := by rw [ha]; exact putSel_on (e := (1, 50, .pointer (some ⟨gr, 0, none⟩))) 1 rfl rfl (hon 1 (by kernel_rfl)) rfl
      replace ha := Aside0.mk ha
      have HT := Aside0.mk Q_HT
      have HR := Aside0.mk Q_HR
      have R0 := Aside0.mk (Q_R0 (hoff 16 (by kernel_rfl)))
      have HB := Aside0.mk Q_HB
      refine goes_ Try.func63 (by kernel_rfl) rfl #[.pointer (some ⟨gr, 0, none⟩)] (by rfl) rfl rfl (by first | (simp only [List.map_toArray, List.map_cons, List.map_nil, Act.eval, Array.getD_eq_getD_getElem?, Option.getD_some, e50]; done) | (simp only [List.map_toArray, List.map_cons, List.map_nil, Act.eval, Array.getD_eq_getD_getElem?, Option.getD_some, e50]; rfl)) ?_
      refine (rd_err HR.out).mono ?_
      rintro e_ wn_ ⟨rfl, rfl⟩
      refine ⟨_, rfl, ?_⟩
      refine hK.out _ _ ⟨(by rw [ha.out]; exact putSel_upk 2 hb_ rfl rfl rfl), HT.out, HR.out, fun _ => R0.out, fun h0_ => absurd ((hoff 16 (by kernel_rfl)).symm.trans h0_) (by decide), HB.out⟩
     refine steps_cons ?_ ?_
     ·rintro b a w' ⟨ha, Q_HT, Q_HR, Q_R0, Q_R1, Q_HB⟩ hb_ hon hoff
      refine ⟨_, rfl, fun K hK => ?_⟩
      have e51 : a.tmps[51]? = some (.int .i64 q5.2.e) := by rw [ha]; exact putSel_on (e := (2, 51, .int .i64 q5.2.e)) 2 rfl rfl (hon 2 (by kernel_rfl)) rfl
      replace ha := Aside0.mk ha
      have HT := Aside0.mk Q_HT
      have HR := Aside0.mk Q_HR
      have R0 := Aside0.mk (Q_R0 (hoff 16 (by kernel_rfl)))
      have HB := Aside0.mk Q_HB
      have hq_ := hq5.out
      refine value_ (w1 := w') (v := .bool false) (by rfl) rfl ?_ ?_
      ·go_simp
       (try simp only [i64_w])
       try rfl
      refine hK.out _ _ ⟨(by rw [ha.out]; exact putSel_upk 3 hb_ rfl rfl rfl), Q_HT, Q_HR, Q_R0, fun h0_ => absurd ((hoff 16 (by kernel_rfl)).symm.trans h0_) (by decide), Q_HB⟩
     refine steps_cons ?_ ?_
     ·rintro b a w' ⟨ha, Q_HT, Q_HR, Q_R0, Q_R1, Q_HB⟩ hb_ hon hoff
      refine ⟨_, rfl, fun K hK => ?_⟩
      have e52 : a.tmps[52]? = some (.bool false) := by rw [ha]; exact putSel_on (e := (3, 52, .bool false)) 3 rfl rfl (hon 3 (by kernel_rfl)) rfl
      replace ha := Aside0.mk ha
      have HT := Aside0.mk Q_HT
      have HR := Aside0.mk Q_HR
      have R0 := Aside0.mk (Q_R0 (hoff 16 (by kernel_rfl)))
      have HB := Aside0.mk Q_HB
      refine value_ (w1 := w') (v := .bool false) (by rfl) rfl ?_ ?_
      ·go_simp
       (try simp only [i64_w])
       try rfl
      refine hK.out _ _ ⟨(by rw [ha.out]; exact putSel_upk 4 hb_ rfl rfl rfl), Q_HT, Q_HR, Q_R0, fun h0_ => absurd ((hoff 16 (by kernel_rfl)).symm.trans h0_) (by decide), Q_HB⟩
     refine steps_cons ?_ ?_
     ·rintro b a w' ⟨ha, Q_HT, Q_HR, Q_R0, Q_R1, Q_HB⟩ hb_ hon hoff
      refine ⟨_, rfl, fun K hK => ?_⟩
      have e53 : a.tmps[53]? = some (.bool false) := by rw [ha]; exact putSel_on (e := (4, 53, .bool false)) 4 rfl rfl (hon 4 (by kernel_rfl)) rfl
      replace ha := Aside0.mk ha
      have HT := Aside0.mk Q_HT
      have HR := Aside0.mk Q_HR
      have R0 := Aside0.mk (Q_R0 (hoff 16 (by kernel_rfl)))
      have HB := Aside0.mk Q_HB
      refine off_ (wanted_off rfl rfl rfl (e53.trans (by first | rfl | (simp [*]; done)))) ?_
      refine hK.out _ _ ⟨(by rw [ha.out]; exact putSel_upk 5 hb_ rfl rfl rfl), Q_HT, Q_HR, Q_R0, fun h0_ => absurd ((hoff 16 (by kernel_rfl)).symm.trans h0_) (by decide), Q_HB⟩
     refine steps_cons ?_ ?_
     ·rintro b a w' ⟨ha, Q_HT, Q_HR, Q_R0, Q_R1, Q_HB⟩ hb_ hon hoff
      refine ⟨_, rfl, fun K hK => ?_⟩
      have e53 : a.tmps[53]? = some (.bool false) := by rw [ha]; exact putSel_on (e := (4, 53, .bool false)) 4 rfl rfl (hon 4 (by kernel_rfl)) rfl
      replace ha := Aside0.mk ha
      have HT := Aside0.mk Q_HT
      have HR := Aside0.mk Q_HR
      have R0 := Aside0.mk (Q_R0 (hoff 16 (by kernel_rfl)))
      have HB := Aside0.mk Q_HB
      refine off_ (wanted_off rfl rfl rfl (e53.trans (by first | rfl | (simp [*]; done)))) ?_
      refine hK.out _ _ ⟨(by rw [ha.out]; exact putSel_upk 6 hb_ rfl rfl rfl), Q_HT, Q_HR, Q_R0, fun h0_ => absurd ((hoff 16 (by kernel_rfl)).symm.trans h0_) (by decide), Q_HB⟩
     refine steps_cons ?_ ?_
     ·rintro b a w' ⟨ha, Q_HT, Q_HR, Q_R0, Q_R1, Q_HB⟩ hb_ hon hoff
      refine ⟨_, rfl, fun K hK => ?_⟩
      have e53 : a.tmps[53]? = some (.bool false) := by rw [ha]; exact putSel_on (e := (4, 53, .bool false)) 4 rfl rfl (hon 4 (by kernel_rfl)) rfl
      have e55 : a.tmps[55]? = some (undef) := by rw [ha]; exact putSel_on (e := (6, 55, undef)) 6 rfl rfl (hon 6 (by kernel_rfl)) rfl
      replace ha := Aside0.mk ha
      have HT := Aside0.mk Q_HT
      have HR := Aside0.mk Q_HR
      have R0 := Aside0.mk (Q_R0 (hoff 16 (by kernel_rfl)))
      have HB := Aside0.mk Q_HB
      refine value_ (w1 := w') (v := .bool false) (by rfl) rfl ?_ ?_
      ·go_simp
       (try simp only [i64_w])
       try rfl
      refine hK.out _ _ ⟨(by rw [ha.out]; exact putSel_upk 7 hb_ rfl rfl rfl), Q_HT, Q_HR, Q_R0, fun h0_ => absurd ((hoff 16 (by kernel_rfl)).symm.trans h0_) (by decide), Q_HB⟩
     refine steps_cons ?_ ?_
     ·rintro b a w' ⟨ha, Q_HT, Q_HR, Q_R0, Q_R1, Q_HB⟩ hb_ hon hoff
      refine ⟨_, rfl, fun K hK => ?_⟩
      have e56 : a.tmps[56]? = some (.bool false) := by rw [ha]; exact putSel_on (e := (7, 56, .bool false)) 7 rfl rfl (hon 7 (by kernel_rfl)) rfl
      replace ha := Aside0.mk ha
      have HT := Aside0.mk Q_HT
      have HR := Aside0.mk Q_HR
      have R0 := Aside0.mk (Q_R0 (hoff 16 (by kernel_rfl)))
      have HB := Aside0.mk Q_HB
      refine value_ (w1 := w') (v := .bool false) (by rfl) rfl ?_ ?_
      ·go_simp
       (try simp only [i64_w])
       try rfl
      refine hK.out _ _ ⟨(by rw [ha.out]; exact putSel_upk 8 hb_ rfl rfl rfl), Q_HT, Q_HR, Q_R0, fun h0_ => absurd ((hoff 16 (by kernel_rfl)).symm.trans h0_) (by decide), Q_HB⟩
     refine steps_cons ?_ ?_
     ·rintro b a w' ⟨ha, Q_HT, Q_HR, Q_R0, Q_R1, Q_HB⟩ hb_ hon hoff
      refine ⟨_, rfl, fun K hK => ?_⟩
      have e57 : a.tmps[57]? = some (.bool false) := by rw [ha]; exact putSel_on (e := (8, 57, .bool false)) 8 rfl rfl (hon 8 (by kernel_rfl)) rfl
      replace ha := Aside0.mk ha
      have HT := Aside0.mk Q_HT
      have HR := Aside0.mk Q_HR
      have HB := Aside0.mk Q_HB
      refine off_ (wanted_off rfl rfl rfl (e57.trans (by first | rfl | (simp [*]; done)))) ?_
      refine hK.out _ _ ⟨(by rw [ha.out]; exact putSel_upk 9 hb_ rfl rfl rfl), Q_HT, Q_HR, Q_R0, Q_R1, Q_HB⟩
     refine steps_cons ?_ ?_
     ·rintro b a w' ⟨ha, Q_HT, Q_HR, Q_R0, Q_R1, Q_HB⟩ hb_ hon hoff
      refine ⟨_, rfl, fun K hK => ?_⟩
      have e57 : a.tmps[57]? = some (.bool false) := by rw [ha]; exact putSel_on (e := (8, 57, .bool false)) 8 rfl rfl (hon 8 (by kernel_rfl)) rfl
      replace ha := Aside0.mk ha
      have HT := Aside0.mk Q_HT
      have HR := Aside0.mk Q_HR
      have HB := Aside0.mk Q_HB
      have hy3_ : w'.cell? ⟨k11, 3, none⟩ = some (.int .u64 q2.1) := (blk_cell HT.out 3).trans rfl
      refine off_ (wanted_off rfl rfl rfl (e57.trans (by first | rfl | (simp [*]; done)))) ?_
      refine hK.out _ _ ⟨(by rw [ha.out]; exact putSel_upk 10 hb_ rfl rfl rfl), Q_HT, Q_HR, Q_R0, Q_R1, Q_HB⟩
     refine steps_cons ?_ ?_
     ·rintro b a w' ⟨ha, Q_HT, Q_HR, Q_R0, Q_R1, Q_HB⟩ hb_ hon hoff
      refine ⟨_, rfl, fun K hK => ?_⟩
      have e57 : a.tmps[57]? = some (.bool false) := by rw [ha]; exact putSel_on (e := (8, 57, .bool false)) 8 rfl rfl (hon 8 (by kernel_rfl)) rfl
      replace ha := Aside0.mk ha
      have HT := Aside0.mk Q_HT
      have HR := Aside0.mk Q_HR
      have HB := Aside0.mk Q_HB
      have hm_ := hmod.out
      refine off_ (wanted_off rfl rfl rfl (e57.trans (by first | rfl | (simp [*]; done)))) ?_
      refine hK.out _ _ ⟨(by rw [ha.out]; exact putSel_upk 11 hb_ rfl rfl rfl), Q_HT, Q_HR, Q_R0, Q_R1, Q_HB⟩
     refine steps_cons ?_ ?_
     ·rintro b a w' ⟨ha, Q_HT, Q_HR, Q_R0, Q_R1, Q_HB⟩ hb_ hon hoff
      refine ⟨_, rfl, fun K hK => ?_⟩
      have e57 : a.tmps[57]? = some (.bool false) := by rw [ha]; exact putSel_on (e := (8, 57, .bool false)) 8 rfl rfl (hon 8 (by kernel_rfl)) rfl
      replace ha := Aside0.mk ha
      have HT := Aside0.mk Q_HT
      have HR := Aside0.mk Q_HR
      have HB := Aside0.mk Q_HB
      refine off_ (wanted_off rfl rfl rfl (e57.trans (by first | rfl | (simp [*]; done)))) ?_
      refine hK.out _ _ ⟨(by rw [ha.out]; exact putSel_upk 12 hb_ rfl rfl rfl), Q_HT, Q_HR, Q_R0, Q_R1, Q_HB⟩
     refine steps_cons ?_ ?_
     ·rintro b a w' ⟨ha, Q_HT, Q_HR, Q_R0, Q_R1, Q_HB⟩ hb_ hon hoff
      refine ⟨_, rfl, fun K hK => ?_⟩
      have e57 : a.tmps[57]? = some (.bool false) := by rw [ha]; exact putSel_on (e := (8, 57, .bool false)) 8 rfl rfl (hon 8 (by kernel_rfl)) rfl
      replace ha := Aside0.mk ha
      have HT := Aside0.mk Q_HT
      have HR := Aside0.mk Q_HR
      have HB := Aside0.mk Q_HB
      have hw_ := hwu.out
      refine off_ (wanted_off rfl rfl rfl (e57.trans (by first | rfl | (simp [*]; done)))) ?_
      refine hK.out _ _ ⟨(by rw [ha.out]; exact putSel_upk 13 hb_ rfl rfl rfl), Q_HT, Q_HR, Q_R0, Q_R1, Q_HB⟩
     refine steps_cons ?_ ?_
     ·rintro b a w' ⟨ha, Q_HT, Q_HR, Q_R0, Q_R1, Q_HB⟩ hb_ hon hoff
      refine ⟨_, rfl, fun K hK => ?_⟩
      have e57 : a.tmps[57]? = some (.bool false) := by rw [ha]; exact putSel_on (e := (8, 57, .bool false)) 8 rfl rfl (hon 8 (by kernel_rfl)) rfl
      replace ha := Aside0.mk ha
      have HT := Aside0.mk Q_HT
      have HR := Aside0.mk Q_HR
      have HB := Aside0.mk Q_HB
      refine off_ (wanted_off rfl rfl rfl (e57.trans (by first | rfl | (simp [*]; done)))) ?_
      refine hK.out _ _ ⟨(by rw [ha.out]; exact putSel_upk 14 hb_ rfl rfl rfl), Q_HT, Q_HR, Q_R0, Q_R1, Q_HB⟩
     refine steps_cons ?_ ?_
     ·rintro b a w' ⟨ha, Q_HT, Q_HR, Q_R0, Q_R1, Q_HB⟩ hb_ hon hoff
      refine ⟨_, rfl, fun K hK => ?_⟩
      have e57 : a.tmps[57]? = some (.bool false) := by rw [ha]; exact putSel_on (e := (8, 57, .bool false)) 8 rfl rfl (hon 8 (by kernel_rfl)) rfl
      have e63 : a.tmps[63]? = some (undef) := by rw [ha]; exact putSel_on (e := (14, 63, undef)) 14 rfl rfl (hon 14 (by kernel_rfl)) rfl
      replace ha := Aside0.mk ha
      have HT := Aside0.mk Q_HT
      have HR := Aside0.mk Q_HR
      have HB := Aside0.mk Q_HB
      refine value_ (w1 := w') (v := .bool false) (by rfl) rfl ?_ ?_
      ·go_simp
       (try simp only [i64_w])
       try rfl
      refine hK.out _ _ ⟨(by rw [ha.out]; exact putSel_upk 15 hb_ rfl rfl rfl), Q_HT, Q_HR, Q_R0, Q_R1, Q_HB⟩
     refine steps_cons ?_ ?_
     ·rintro b a w' ⟨ha, Q_HT, Q_HR, Q_R0, Q_R1, Q_HB⟩ hb_ hon hoff
      refine ⟨_, rfl, fun K hK => ?_⟩
      have e4 : a.tmps[4]? = some (.pointer (some ⟨k4, 0, none⟩)) := by rw [ha]; exact (putSel_off rfl).trans rfl
      have e49 : a.tmps[49]? = some (.agg #[.pointer none, .int .i64 0, .int .i64 0, .int .u64 q2.1, .int .u64 q3.1, .int .u64 q4.1, .int .u64 q5.1, .int .u64 0, .int .u64 0]) := by rw [ha]; exact putSel_on (e := (0, 49, .agg #[.pointer none, .int .i64 0, .int .i64 0, .int .u64 q2.1, .int .u64 q3.1, .int .u64 q4.1, .int .u64 q5.1, .int .u64 0, .int .u64 0])) 0 rfl rfl (hon 0 (by kernel_rfl)) rfl
      replace ha := Aside0.mk ha
      have HT := Aside0.mk Q_HT
      have HR := Aside0.mk Q_HR
      have R0 := Aside0.mk (Q_R0 hb_)
      have HB := Aside0.mk Q_HB
      have hz0_ : w'.cell? ⟨k4, 0, none⟩ = some (.pointer none) := (blk_cell R0.out 0).trans rfl
      have hz1_ : w'.cell? ⟨k4, 1, none⟩ = some (.int .i64 0) := (blk_cell R0.out 1).trans rfl
      have hz2_ : w'.cell? ⟨k4, 2, none⟩ = some (.int .i64 0) := (blk_cell R0.out 2).trans rfl
      have hz3_ : w'.cell? ⟨k4, 3, none⟩ = some (.int .u64 0) := (blk_cell R0.out 3).trans rfl
      have hz4_ : w'.cell? ⟨k4, 4, none⟩ = some (.int .u64 0) := (blk_cell R0.out 4).trans rfl
      have hz5_ : w'.cell? ⟨k4, 5, none⟩ = some (.int .u64 0) := (blk_cell R0.out 5).trans rfl
      have hz6_ : w'.cell? ⟨k4, 6, none⟩ = some (.int .u64 0) := (blk_cell R0.out 6).trans rfl
      have hz7_ : w'.cell? ⟨k4, 7, none⟩ = some (.int .u64 0) := (blk_cell R0.out 7).trans rfl
      have hz8_ : w'.cell? ⟨k4, 8, none⟩ = some (.int .u64 0) := (blk_cell R0.out 8).trans rfl
      have hf0_ : w'.frozen? ⟨k4, 0, none⟩ = false := blk_frozen R0.out 0
      have hf1_ : w'.frozen? ⟨k4, 1, none⟩ = false := blk_frozen R0.out 1
      have hf2_ : w'.frozen? ⟨k4, 2, none⟩ = false := blk_frozen R0.out 2
      have hf3_ : w'.frozen? ⟨k4, 3, none⟩ = false := blk_frozen R0.out 3
      have hf4_ : w'.frozen? ⟨k4, 4, none⟩ = false := blk_frozen R0.out 4
      have hf5_ : w'.frozen? ⟨k4, 5, none⟩ = false := blk_frozen R0.out 5
      have hf6_ : w'.frozen? ⟨k4, 6, none⟩ = false := blk_frozen R0.out 6
      have hf7_ : w'.frozen? ⟨k4, 7, none⟩ = false := blk_frozen R0.out 7
      have hf8_ : w'.frozen? ⟨k4, 8, none⟩ = false := blk_frozen R0.out 8
      refine skip_ (w1 := (((((((((w'.setCell ⟨k4, 0, none⟩ (.pointer none)).setCell ⟨k4, 1, none⟩ (.int .i64 0)).setCell ⟨k4, 2, none⟩ (.int .i64 0)).setCell ⟨k4, 3, none⟩ (.int .u64 q2.1)).setCell ⟨k4, 4, none⟩ (.int .u64 q3.1)).setCell ⟨k4, 5, none⟩ (.int .u64 q4.1)).setCell ⟨k4, 6, none⟩ (.int .u64 q5.1)).setCell ⟨k4, 7, none⟩ (.int .u64 0)).setCell ⟨k4, 8, none⟩ (.int .u64 0))) (by rfl) rfl ?_ ?_
      ·go_simp
       try rfl
      refine hK.out _ _ ⟨(by rw [ha.out]; exact putSel_none (v := undef) rfl), (blk_far (blk_far (blk_far (blk_far (blk_far (blk_far (blk_far (blk_far (blk_far HT.out (p := ⟨k4, 0, none⟩) hne11.out _) (p := ⟨k4, 1, none⟩) hne11.out _) (p := ⟨k4, 2, none⟩) hne11.out _) (p := ⟨k4, 3, none⟩) hne11.out _) (p := ⟨k4, 4, none⟩) hne11.out _) (p := ⟨k4, 5, none⟩) hne11.out _) (p := ⟨k4, 6, none⟩) hne11.out _) (p := ⟨k4, 7, none⟩) hne11.out _) (p := ⟨k4, 8, none⟩) hne11.out _), (IsS107.far (IsS107.far (IsS107.far (IsS107.far (IsS107.far (IsS107.far (IsS107.far (IsS107.far (IsS107.far HR.out (p := ⟨k4, 0, none⟩) hneR.out _) (p := ⟨k4, 1, none⟩) hneR.out _) (p := ⟨k4, 2, none⟩) hneR.out _) (p := ⟨k4, 3, none⟩) hneR.out _) (p := ⟨k4, 4, none⟩) hneR.out _) (p := ⟨k4, 5, none⟩) hneR.out _) (p := ⟨k4, 6, none⟩) hneR.out _) (p := ⟨k4, 7, none⟩) hneR.out _) (p := ⟨k4, 8, none⟩) hneR.out _), fun h0_ => absurd ((up_self b 16).symm.trans h0_) (by decide), fun _ => (blk_put (blk_put (blk_put (blk_put (blk_put (blk_put (blk_put (blk_put (blk_put R0.out 0 _ rfl) 1 _ rfl) 2 _ rfl) 3 _ rfl) 4 _ rfl) 5 _ rfl) 6 _ rfl) 7 _ rfl) 8 _ rfl), (below_set (below_set (below_set (below_set (below_set (below_set (below_set (below_set (below_set HB.out HK4.out) HK4.out) HK4.out) HK4.out) HK4.out) HK4.out) HK4.out) HK4.out) HK4.out)⟩
     refine steps_cons ?_ ?_
     ·rintro b a w' ⟨ha, Q_HT, Q_HR, Q_R0, Q_R1, Q_HB⟩ hb_ hon hoff
      refine ⟨_, rfl, fun K hK => ?_⟩
      have e64 : a.tmps[64]? = some (.bool false) := by rw [ha]; exact putSel_on (e := (15, 64, .bool false)) 15 rfl rfl (hon 15 (by kernel_rfl)) rfl
      replace ha := Aside0.mk ha
      have HT := Aside0.mk Q_HT
      have HR := Aside0.mk Q_HR
      have R1 := Aside0.mk (Q_R1 (hon 16 (by kernel_rfl)))
      have HB := Aside0.mk Q_HB
      refine value_ (w1 := w') (v := .bool false) (by rfl) rfl ?_ ?_
      ·go_simp
       (try simp only [i64_w])
       try rfl
      refine hK.out _ _ ⟨(by rw [ha.out]; exact putSel_upk 16 hb_ rfl rfl rfl), Q_HT, Q_HR, fun h0_ => absurd ((hon 16 (by kernel_rfl)).symm.trans h0_) (by decide), Q_R1, Q_HB⟩
     refine steps_cons ?_ ?_
     ·rintro b a w' ⟨ha, Q_HT, Q_HR, Q_R0, Q_R1, Q_HB⟩ hb_ hon hoff
      refine ⟨_, rfl, fun K hK => ?_⟩
      replace ha := Aside0.mk ha
      have HT := Aside0.mk Q_HT
      have HR := Aside0.mk Q_HR
      have R1 := Aside0.mk (Q_R1 (hon 16 (by kernel_rfl)))
      have HB := Aside0.mk Q_HB
      refine value_ (w1 := w') (v := .int .i64 0) (by rfl) rfl ?_ ?_
      ·go_simp
       (try simp only [i64_w])
       try rfl
      refine hK.out _ _ ⟨(by rw [ha.out]; exact putSel_upk 17 hb_ rfl rfl rfl), Q_HT, Q_HR, fun h0_ => absurd ((hon 16 (by kernel_rfl)).symm.trans h0_) (by decide), Q_R1, Q_HB⟩
     exact steps_nil
    rintro b a w' hall ⟨ha, Q_HT, Q_HR, Q_R0, Q_R1, Q_HB⟩
    clear HB HR HT R0
    have hb0_ := hall 0 (by kernel_rfl)
    have hb1_ := hall 1 (by kernel_rfl)
    have hb2_ := hall 2 (by kernel_rfl)
    have hb3_ := hall 3 (by kernel_rfl)
    have hb4_ := hall 4 (by kernel_rfl)
    have hb5_ := hall 5 (by kernel_rfl)
    have hb6_ := hall 6 (by kernel_rfl)
    have hb7_ := hall 7 (by kernel_rfl)
    have hb8_ := hall 8 (by kernel_rfl)
    have hb9_ := hall 9 (by kernel_rfl)
    have hb10_ := hall 10 (by kernel_rfl)
    have hb11_ := hall 11 (by kernel_rfl)
    have hb12_ := hall 12 (by kernel_rfl)
    have hb13_ := hall 13 (by kernel_rfl)
    have hb14_ := hall 14 (by kernel_rfl)
    have hb15_ := hall 15 (by kernel_rfl)
    have hb16_ := hall 16 (by kernel_rfl)
    have hb17_ := hall 17 (by kernel_rfl)
    have hb18_ := hall 18 (by kernel_rfl)
    subst ha
    simp only [putSel, hb0_, hb1_, hb2_, hb3_, hb4_, hb5_, hb6_, hb7_, hb8_, hb9_, hb10_, hb11_, hb12_, hb13_, hb14_, hb15_, hb16_, hb17_, hb18_, if_true, Act.put, List.setIfInBounds_toArray, List.set_cons_zero, List.set_cons_succ]
    have HT := Aside0.mk Q_HT
    clear Q_HT
    have HR := Aside0.mk Q_HR
    clear Q_HR Q_R0
    have R1 := Aside0.mk (Q_R1 hb16_)
    clear Q_R1
    have HB := Aside0.mk Q_HB
    clear Q_HB
    clear hall hb0_ hb1_ hb2_ hb3_ hb4_ hb5_ hb6_ hb7_ hb8_ hb9_ hb10_ hb11_ hb12_ hb13_ hb14_ hb15_ hb16_ hb17_ hb18_
    go_wp2
    (try simp only [Exit.inBlock, Exit.then])
    refine bodyPost_ret (results_cell2 rfl _ _ k4 89 _ _ _ rfl R1.out Try.underlying89 rfl (by kernel_rfl)) rfl ?_
    refine ⟨?_, HB.out⟩
    rw [show L.ms M n = mst s.b n by unfold LA.ms; rw [← HE.out, if_pos rfl, HS.out]]
    unfold mst
    rw [← HQ1.out, ← HQ2.out, ← HQ3.out, ← HQ4.out, ← HQ5.out, hq5.out, Bool.false_and]
    rfl
  ·have t9 : (E == 9) = false := by simpa using h9
   have t0 : (E != 0) = true := by simpa using hz
   go_wp2
   (try simp only [Exit.inBlock, Exit.then])
   refine bodyPost_ret (results_cell2 rfl _ _ k4 89 _ _ _ rfl (blk_put (blk_put (blk_put (blk_put (blk_put (blk_put (blk_put (blk_put (blk_put HB'.out 0 _ rfl) 1 _ rfl) 2 _ rfl) 3 _ rfl) 4 _ rfl) 5 _ rfl) 6 _ rfl) 7 _ rfl) 8 _ rfl) Try.underlying89 rfl (by kernel_rfl)) rfl ?_
   refine ⟨?_, (below_set (below_set (below_set (below_set (below_set (below_set (below_set (below_set (below_set B1.out HK4.out) HK4.out) HK4.out) HK4.out) HK4.out) HK4.out) HK4.out) HK4.out) HK4.out)⟩
   rw [show L.ms M n = ⟨0, 0, 0, 0, false, E⟩ by unfold LA.ms; rw [← HE.out, if_neg hz, if_neg h9]]
   rfl
end
end Go.Proofs.Ytihmfccpgahmaaa.Wal
