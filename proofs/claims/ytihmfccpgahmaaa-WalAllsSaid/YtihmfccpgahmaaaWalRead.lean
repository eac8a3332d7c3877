/- (*wal.Log).read, walked: what stands under a number. Conditions: the log's numbers within their bounds, all on the disk is bytes. -/
import Derived.Test.YtihmfccpgahmaaaWal
namespace Go.Proofs.Ytihmfccpgahmaaa.Wal
open Go Go.RowKit Go.Proofs.YtihmfccpgahmaaaW.PrintWords Go.Proofs.YtihmfccpgahmaaaW.PrintMore Go.Proofs.YtihmfccpgahmaaaW.PrintLast Go.Proofs.Ytihmfccpgahmaaa.Dk Go.Proofs.Ytihmfccpgahmaaa.Q Go.Proofs.Ytihmfccpgahmaaa.Str Go.Proofs.Ytihmfccpgahmaaa.Leb
set_option linter.unusedVariables false
set_option linter.unusedSimpArgs false
structure Part where
 life : Int
 last : Bool
 b : ByteArray
 ok : Bool
 e : Int
/-- The part that a sector's bytes are. -/
def prt (l : List Int) (n : Int) : Part :=
 ⟨(rnum (rnum ⟨l, 0⟩ 9223372036854775807).2 1099511627776).1, (rnum (rnum (rnum ⟨l, 0⟩ 9223372036854775807).2 1099511627776).2 1).1 == 1, (rtext (rnum (rnum (rnum ⟨l, 0⟩ 9223372036854775807).2 1099511627776).2 1).2 480).1,
  (rtext (rnum (rnum (rnum ⟨l, 0⟩ 9223372036854775807).2 1099511627776).2 1).2 480).2.e == 0 && (rnum ⟨l, 0⟩ 9223372036854775807).1 == n + 1, 0⟩
/-- What stands under a number. -/
def LA.rd (L : LA) (M : DA) (n : Int) : Part :=
 if M.rdE (L.pl n) = 0 then prt (M.rdB (L.pl n)) n else if M.rdE (L.pl n) = 9 then ⟨0, false, ⟨#[]⟩, false, 0⟩ else ⟨0, false, ⟨#[]⟩, false, M.rdE (L.pl n)⟩
theorem DY.rdB {M : DA} (h : DY M) (i : Int) : Byt (M.rdB i) := by
 unfold DA.rdB
 split
 ·unfold wholeF
  refine Byt.append ?_ (fun x hx => by rw [(List.mem_replicate.1 hx).2]; decide)
  unfold rdOf
  rw [List.getD_eq_getElem?_getD]
  cases he : M.now[i.toNat]? with
  | none => exact Byt.nil
  | some s => exact h.now s (List.mem_of_getElem? he)
 ·exact Byt.nil
def wlrd1.T1 : Bool × List (List Nat × List Nat) := (true, [([], []), ([0], [0]), ([1], [1]), ([2], [2]), ([], []), ([], []), ([4, 5], [4, 5]), ([3, 6, 6], [3, 6]), ([7], [7]), ([8], [8]), ([8], [8]), ([9, 7, 0, 1, 2, 3, 4, 5, 6, 7, 8, 9], [9]), ([10, 11, 0, 1, 2, 3, 4, 5, 6, 7, 8, 9, 10, 11], [10])])
def wlrd1.B1 : List Nat := [0, 1, 3, 7, 0, 0, 48, 127, 255, 511, 511, 1023, 4095]
theorem wlrd1.tab1 : rtab .any (opsOf Try.f59 1) = wlrd1.T1 := by kernel_rfl
theorem wlrd1.bits1 : waitsOk wlrd1.T1.2 wlrd1.B1 = true := by kernel_rfl
def wlrd11t.T11 : Bool × List (List Nat × List Nat) := (true, [([], []), ([], []), ([1], [1]), ([2], [2]), ([3, 2], [3]), ([4], [4]), ([4], [4]), ([6, 4], [4, 6]), ([5, 7, 4], [4, 5, 7]), ([4, 8], [4, 8]), ([0, 4, 0], [0]), ([9, 10, 0, 1, 2, 3, 4, 5, 6, 7, 8, 9, 10], [9]), ([11, 0, 1, 2, 3, 4, 5, 6, 7, 8, 9, 10, 11], [])])
def wlrd11t.B11 : List Nat := [0, 0, 2, 6, 14, 30, 30, 94, 254, 510, 31, 2047, 4095]
theorem wlrd11t.tab11 : rtab .any (opsOf Try.f59 11) = wlrd11t.T11 := by kernel_rfl
theorem wlrd11t.bits11 : waitsOk wlrd11t.T11.2 wlrd11t.B11 = true := by kernel_rfl
def wlrd11f.T11 : Bool × List (List Nat × List Nat) := (true, [([], []), ([], []), ([1], [1]), ([2], [2]), ([3, 2], [3]), ([4], [4]), ([4], [4]), ([6, 4], [4, 6]), ([5, 7, 4], [4, 5, 7]), ([4, 8], [4, 8]), ([0, 4, 0], [0]), ([9, 10, 0, 1, 2, 3, 4, 5, 6, 7, 8, 9, 10], [9]), ([11, 0, 1, 2, 3, 4, 5, 6, 7, 8, 9, 10, 11], [])])
def wlrd11f.B11 : List Nat := [0, 0, 2, 6, 14, 30, 30, 94, 254, 510, 31, 2047, 4095]
theorem wlrd11f.tab11 : rtab .any (opsOf Try.f59 11) = wlrd11f.T11 := by kernel_rfl
theorem wlrd11f.bits11 : waitsOk wlrd11f.T11.2 wlrd11f.B11 = true := by kernel_rfl
section
variable {w0 w : World} {p g : Nat} {S : Nat → Prop} {L : LA} {M : DA}
set_option maxRecDepth 100000 in
set_option maxHeartbeats 4000000 in
theorem read_l (h : Lg w0 w p g S L M) (hk : L.Ok M.now.length) (hY : DY M) (n : Int) (h0 : 0 ≤ n) (h1 : n < 9223372036854775807) : Calls Try.prog 59 #[.pointer (some ⟨p, 0, none⟩), .int .u64 n] w fun e w' =>
  e = .returned (.tuple #[.agg #[.int .u64 (L.rd M n).life, .bool (L.rd M n).last, .string (L.rd M n).b], .bool (L.rd M n).ok, .int .i64 (L.rd M n).e]) ∧ Below w.heap.size w w' := by
 have HL := Aside0.mk h
 replace hk := Aside0.mk hk
 have hn := Aside0.mk (show 0 ≤ n ∧ n < 9223372036854775808 by omega)
 go_enter Try.func59, Try.ntmps59
 go_upto_region 1 with fail
 have HL2 := Aside0.mk (h.below (below_alloc (Below.refl _ _) (.cells #[.int .u64 0, .bool false, .string ⟨#[]⟩] 98 (0, 0))))
 have BR := Aside0.mk (blk_new w (.cells #[.int .u64 0, .bool false, .string ⟨#[]⟩] 98 (0, 0)))
 have B0 := Aside0.mk (below_alloc (Below.refl w.heap.size w) (.cells #[.int .u64 0, .bool false, .string ⟨#[]⟩] 98 (0, 0)))
 obtain ⟨k4, hk4⟩ : ∃ k, k = w.heap.size := ⟨_, rfl⟩
 have HK4 := Aside0.mk (show w.heap.size ≤ k4 by omega)
 rw [← hk4] at BR ⊢
 clear HL h hk4
 generalize w.alloc _ = wa at HL2 BR B0 ⊢
 have HL := HL2
 clear HL2
 have HB := Aside0.mk (Below.refl wa.heap.size wa)
 refine start_ (n := 13) (S := fun w' => True) (ds := []) #[false, false, false, false, false, false, false, false, false, false, false, false, false] (by kernel_rfl) rfl rfl trivial (fun hHeld => ?_)
 refine with_tabW wlrd1.tab1 wlrd1.bits1 (fun HT_ HW_ => ?_)
 have n0_ := Aside0.mk (below_drew HB.out)
 clear HB
 generalize World.drew _ = wd at n0_ hHeld ⊢
 have HB := n0_
 clear hHeld n0_
 refine inv_at [0, 1, 2, 3, 4, 5, 6, 7, 8, 9, 10, 11, 12] (fun a0_ b a w' => ∃ (s : Sec) (m7_ : Value) (m8_ : Value) (m9_ : Value) (m11_ : Value), a = putSel a0_ b [(0, 13, .pointer (some ⟨p, 0, none⟩)), (1, 14, .pointer (some ⟨p, 0, none⟩)), (2, 15, .pointer (some ⟨p, 0, none⟩)), (3, 16, .pointer (some ⟨g, 0, none⟩)), (4, 17, .pointer (some ⟨p, 0, none⟩)), (5, 18, .int .u64 n), (6, 19, .int .i64 (L.pl n)), (7, 20, m7_), (8, 12, m8_), (9, 21, m9_), (10, 22, .int .i64 (M.rdE (L.pl n))), (11, 7, m11_), (12, 8, .int .i64 (M.rdE (L.pl n)))] ∧ (Below wa.heap.size wa w') ∧ (b 7 = true → Own w' wa.heap.size (fun _ => True) s) ∧ (b 7 = true → s.b = M.rdB (L.pl n)) ∧ (b 7 = true → (m7_ : Value) = .tuple #[s.v, .int .i64 (M.rdE (L.pl n))]) ∧ (b 8 = true → (m8_ : Value) = .tuple #[s.v, .int .i64 (M.rdE (L.pl n))]) ∧ (b 9 = true → (m9_ : Value) = s.v) ∧ (b 11 = true → (m11_ : Value) = s.v)) HT_.out HW_.out (by kernel_rfl) (by kernel_rfl) ?_ ?_ ?_
 ·exact ⟨Sec.nil, .bool false, .bool false, .bool false, .bool false, by simp only [putSel, Bool.false_eq_true, if_false], HB.out, fun h_ => absurd h_ (by decide), fun h_ => absurd h_ (by decide), fun h_ => absurd h_ (by decide), fun h_ => absurd h_ (by decide), fun h_ => absurd h_ (by decide), fun h_ => absurd h_ (by decide)⟩
 ·skip
  clear HB
  refine steps_cons ?_ ?_
  ·rintro b a w' ⟨s, m7_, m8_, m9_, m11_, ha, Q_HB, Q_HO, Q_HS, Q_X7_, Q_X8_, Q_X9_, Q_X11_⟩ hb_ hon hoff
   refine ⟨_, rfl, fun K hK => ?_⟩
   have e0 : a.tmps[0]? = some (.pointer (some ⟨p, 0, none⟩)) := by rw [ha]; exact (putSel_off rfl).trans rfl
   replace ha := Aside0.mk ha
   have HB := Aside0.mk Q_HB
   refine value_ (w1 := w') (v := .pointer (some ⟨p, 0, none⟩)) (by rfl) rfl ?_ ?_
   ·go_simp
    (try simp only [i64_w])
    try rfl
   refine hK.out _ _ ⟨s, m7_, m8_, m9_, m11_, (by rw [ha.out]; exact putSel_upk 0 hb_ rfl rfl rfl), Q_HB, fun h0_ => absurd ((hoff 7 (by kernel_rfl)).symm.trans h0_) (by decide), fun h0_ => absurd ((hoff 7 (by kernel_rfl)).symm.trans h0_) (by decide), fun h0_ => absurd ((hoff 7 (by kernel_rfl)).symm.trans h0_) (by decide), fun h0_ => absurd ((hoff 8 (by kernel_rfl)).symm.trans h0_) (by decide), fun h0_ => absurd ((hoff 9 (by kernel_rfl)).symm.trans h0_) (by decide), fun h0_ => absurd ((hoff 11 (by kernel_rfl)).symm.trans h0_) (by decide)⟩
  refine steps_cons ?_ ?_
  ·rintro b a w' ⟨s, m7_, m8_, m9_, m11_, ha, Q_HB, Q_HO, Q_HS, Q_X7_, Q_X8_, Q_X9_, Q_X11_⟩ hb_ hon hoff
   refine ⟨_, rfl, fun K hK => ?_⟩
   have e13 : a.tmps[13]? = some (.pointer (some ⟨p, 0, none⟩)) := by rw [ha]; exact putSel_on (e := (0, 13, .pointer (some ⟨p, 0, none⟩))) 0 rfl rfl (hon 0 (by kernel_rfl)) rfl
   replace ha := Aside0.mk ha
   have HB := Aside0.mk Q_HB
   refine value_ (w1 := w') (v := .pointer (some ⟨p, 0, none⟩)) (by rfl) rfl ?_ ?_
   ·go_simp
    (try simp only [i64_w])
    try rfl
   refine hK.out _ _ ⟨s, m7_, m8_, m9_, m11_, (by rw [ha.out]; exact putSel_upk 1 hb_ rfl rfl rfl), Q_HB, fun h0_ => absurd ((hoff 7 (by kernel_rfl)).symm.trans h0_) (by decide), fun h0_ => absurd ((hoff 7 (by kernel_rfl)).symm.trans h0_) (by decide), fun h0_ => absurd ((hoff 7 (by kernel_rfl)).symm.trans h0_) (by decide), fun h0_ => absurd ((hoff 8 (by kernel_rfl)).symm.trans h0_) (by decide), fun h0_ => absurd ((hoff 9 (by kernel_rfl)).symm.trans h0_) (by decide), fun h0_ => absurd ((hoff 11 (by kernel_rfl)).symm.trans h0_) (by decide)⟩
  refine steps_cons ?_ ?_
  ·rintro b a w' ⟨s, m7_, m8_, m9_, m11_, ha, Q_HB, Q_HO, Q_HS, Q_X7_, Q_X8_, Q_X9_, Q_X11_⟩ hb_ hon hoff
   refine ⟨_, rfl, fun K hK => ?_⟩
   have e14 : a.tmps[14]? = some (.pointer (some ⟨p, 0, none⟩)) := by rw [ha]; exact putSel_on (e := (1, 14, .pointer (some ⟨p, 0, none⟩))) 1 rfl rfl (hon 1 (by kernel_rfl)) rfl
   replace ha := Aside0.mk ha
   have HB := Aside0.mk Q_HB
   refine value_ (w1 := w') (v := .pointer (some ⟨p, 0, none⟩)) (by rfl) rfl ?_ ?_
   ·go_simp
    (try simp only [i64_w])
    try rfl
   refine hK.out _ _ ⟨s, m7_, m8_, m9_, m11_, (by rw [ha.out]; exact putSel_upk 2 hb_ rfl rfl rfl), Q_HB, fun h0_ => absurd ((hoff 7 (by kernel_rfl)).symm.trans h0_) (by decide), fun h0_ => absurd ((hoff 7 (by kernel_rfl)).symm.trans h0_) (by decide), fun h0_ => absurd ((hoff 7 (by kernel_rfl)).symm.trans h0_) (by decide), fun h0_ => absurd ((hoff 8 (by kernel_rfl)).symm.trans h0_) (by decide), fun h0_ => absurd ((hoff 9 (by kernel_rfl)).symm.trans h0_) (by decide), fun h0_ => absurd ((hoff 11 (by kernel_rfl)).symm.trans h0_) (by decide)⟩
  refine steps_cons ?_ ?_
  ·rintro b a w' ⟨s, m7_, m8_, m9_, m11_, ha, Q_HB, Q_HO, Q_HS, Q_X7_, Q_X8_, Q_X9_, Q_X11_⟩ hb_ hon hoff
   refine ⟨_, rfl, fun K hK => ?_⟩
   have e15 : a.tmps[15]? = some (.pointer (some ⟨p, 0, none⟩)) := by rw [ha]; exact putSel_on (e := (2, 15, .pointer (some ⟨p, 0, none⟩))) 2 rfl rfl (hon 2 (by kernel_rfl)) rfl
   replace ha := Aside0.mk ha
   have HB := Aside0.mk Q_HB
   have hc0_ : w'.cell? ⟨p, 0, none⟩ = some (.pointer (some ⟨g, 0, none⟩)) := (HL.out.below HB.out).cell 0 _ rfl
   refine value_ (w1 := w') (v := .pointer (some ⟨g, 0, none⟩)) (by rfl) rfl ?_ ?_
   ·go_simp
    (try simp only [i64_w])
    try rfl
   refine hK.out _ _ ⟨s, m7_, m8_, m9_, m11_, (by rw [ha.out]; exact putSel_upk 3 hb_ rfl rfl rfl), Q_HB, fun h0_ => absurd ((hoff 7 (by kernel_rfl)).symm.trans h0_) (by decide), fun h0_ => absurd ((hoff 7 (by kernel_rfl)).symm.trans h0_) (by decide), fun h0_ => absurd ((hoff 7 (by kernel_rfl)).symm.trans h0_) (by decide), fun h0_ => absurd ((hoff 8 (by kernel_rfl)).symm.trans h0_) (by decide), fun h0_ => absurd ((hoff 9 (by kernel_rfl)).symm.trans h0_) (by decide), fun h0_ => absurd ((hoff 11 (by kernel_rfl)).symm.trans h0_) (by decide)⟩
  refine steps_cons ?_ ?_
  ·rintro b a w' ⟨s, m7_, m8_, m9_, m11_, ha, Q_HB, Q_HO, Q_HS, Q_X7_, Q_X8_, Q_X9_, Q_X11_⟩ hb_ hon hoff
   refine ⟨_, rfl, fun K hK => ?_⟩
   have e0 : a.tmps[0]? = some (.pointer (some ⟨p, 0, none⟩)) := by rw [ha]; exact (putSel_off rfl).trans rfl
   replace ha := Aside0.mk ha
   have HB := Aside0.mk Q_HB
   refine value_ (w1 := w') (v := .pointer (some ⟨p, 0, none⟩)) (by rfl) rfl ?_ ?_
   ·go_simp
    (try simp only [i64_w])
    try rfl
   refine hK.out _ _ ⟨s, m7_, m8_, m9_, m11_, (by rw [ha.out]; exact putSel_upk 4 hb_ rfl rfl rfl), Q_HB, fun h0_ => absurd ((hoff 7 (by kernel_rfl)).symm.trans h0_) (by decide), fun h0_ => absurd ((hoff 7 (by kernel_rfl)).symm.trans h0_) (by decide), fun h0_ => absurd ((hoff 7 (by kernel_rfl)).symm.trans h0_) (by decide), fun h0_ => absurd ((hoff 8 (by kernel_rfl)).symm.trans h0_) (by decide), fun h0_ => absurd ((hoff 9 (by kernel_rfl)).symm.trans h0_) (by decide), fun h0_ => absurd ((hoff 11 (by kernel_rfl)).symm.trans h0_) (by decide)⟩
  refine steps_cons ?_ ?_
  ·rintro b a w' ⟨s, m7_, m8_, m9_, m11_, ha, Q_HB, Q_HO, Q_HS, Q_X7_, Q_X8_, Q_X9_, Q_X11_⟩ hb_ hon hoff
   refine ⟨_, rfl, fun K hK => ?_⟩
   have e1 : a.tmps[1]? = some (.int .u64 n) := by rw [ha]; exact (putSel_off rfl).trans rfl
   replace ha := Aside0.mk ha
   have HB := Aside0.mk Q_HB
   refine value_ (w1 := w') (v := .int .u64 n) (by rfl) rfl ?_ ?_
   ·go_simp
    (try simp only [i64_w])
    try rfl
   refine hK.out _ _ ⟨s, m7_, m8_, m9_, m11_, (by rw [ha.out]; exact putSel_upk 5 hb_ rfl rfl rfl), Q_HB, fun h0_ => absurd ((hoff 7 (by kernel_rfl)).symm.trans h0_) (by decide), fun h0_ => absurd ((hoff 7 (by kernel_rfl)).symm.trans h0_) (by decide), fun h0_ => absurd ((hoff 7 (by kernel_rfl)).symm.trans h0_) (by decide), fun h0_ => absurd ((hoff 8 (by kernel_rfl)).symm.trans h0_) (by decide), fun h0_ => absurd ((hoff 9 (by kernel_rfl)).symm.trans h0_) (by decide), fun h0_ => absurd ((hoff 11 (by kernel_rfl)).symm.trans h0_) (by decide)⟩
  refine steps_cons ?_ ?_
  ·rintro b a w' ⟨s, m7_, m8_, m9_, m11_, ha, Q_HB, Q_HO, Q_HS, Q_X7_, Q_X8_, Q_X9_, Q_X11_⟩ hb_ hon hoff
   refine ⟨_, rfl, fun K hK => ?_⟩
   have e17 : a.tmps[17]? = some (.pointer (some ⟨p, 0, none⟩)) := by rw [ha]; exact putSel_on (e := (4, 17, .pointer (some ⟨p, 0, none⟩))) 4 rfl rfl (hon 4 (by kernel_rfl)) rfl
   have e18 : a.tmps[18]? = some (.int .u64 n) := by rw [ha]; exact putSel_on (e := (5, 18, .int .u64 n)) 5 rfl rfl (hon 5 (by kernel_rfl)) rfl
   replace ha := Aside0.mk ha
   have HB := Aside0.mk Q_HB
   refine goes_ Try.func57 (by kernel_rfl) rfl #[.pointer (some ⟨p, 0, none⟩), .int .u64 n] (by rfl) rfl rfl (by first | (simp only [List.map_toArray, List.map_cons, List.map_nil, Act.eval, Array.getD_eq_getD_getElem?, Option.getD_some, e17, e18]; done) | (simp only [List.map_toArray, List.map_cons, List.map_nil, Act.eval, Array.getD_eq_getD_getElem?, Option.getD_some, e17, e18]; rfl)) ?_
   refine (place_l (HL.out.below HB.out) hk.out n hn.out.1 hn.out.2).mono ?_
   rintro e_ wn_ ⟨rfl, k_, rfl⟩
   refine ⟨_, rfl, ?_⟩
   refine hK.out _ _ ⟨s, m7_, m8_, m9_, m11_, (by rw [ha.out]; exact putSel_upk 6 hb_ rfl rfl rfl), (below_step HB.out (below_drewN w' k_)), fun h0_ => absurd ((hoff 7 (by kernel_rfl)).symm.trans h0_) (by decide), fun h0_ => absurd ((hoff 7 (by kernel_rfl)).symm.trans h0_) (by decide), fun h0_ => absurd ((hoff 7 (by kernel_rfl)).symm.trans h0_) (by decide), fun h0_ => absurd ((hoff 8 (by kernel_rfl)).symm.trans h0_) (by decide), fun h0_ => absurd ((hoff 9 (by kernel_rfl)).symm.trans h0_) (by decide), fun h0_ => absurd ((hoff 11 (by kernel_rfl)).symm.trans h0_) (by decide)⟩
  refine steps_cons ?_ ?_
  ·rintro b a w' ⟨s, m7_, m8_, m9_, m11_, ha, Q_HB, Q_HO, Q_HS, Q_X7_, Q_X8_, Q_X9_, Q_X11_⟩ hb_ hon hoff
   refine ⟨_, rfl, fun K hK => ?_⟩
   have e16 : a.tmps[16]? = some (.pointer (some ⟨g, 0, none⟩)) := by rw [ha]; exact putSel_on (e := (3, 16, .pointer (some ⟨g, 0, none⟩))) 3 rfl rfl (hon 3 (by kernel_rfl)) rfl
   have e19 : a.tmps[19]? = some (.int .i64 (L.pl n)) := by rw [ha]; exact putSel_on (e := (6, 19, .int .i64 (L.pl n))) 6 rfl rfl (hon 6 (by kernel_rfl)) rfl
   replace ha := Aside0.mk ha
   have HB := Aside0.mk Q_HB
   refine goes_ Try.func23 (by kernel_rfl) rfl #[.pointer (some ⟨g, 0, none⟩), .int .i64 (L.pl n)] (by rfl) rfl rfl (by first | (simp only [List.map_toArray, List.map_cons, List.map_nil, Act.eval, Array.getD_eq_getD_getElem?, Option.getD_some, e16, e19]; done) | (simp only [List.map_toArray, List.map_cons, List.map_nil, Act.eval, Array.getD_eq_getD_getElem?, Option.getD_some, e16, e19]; rfl)) ?_
   refine (st_read (HL.out.below HB.out).D (L.pl n)).mono ?_
   rintro e_ wn_ ⟨sn_, rfl, hs_, ho_, hbw_⟩
   refine ⟨_, rfl, ?_⟩
   refine hK.out _ _ ⟨sn_, (.tuple #[sn_.v, .int .i64 (M.rdE (L.pl n))]), m8_, m9_, m11_, (by rw [ha.out]; exact putSel_upk 7 hb_ rfl rfl rfl), (below_step HB.out hbw_), fun _ => (Kd.R_lower ho_ HB.out.size), fun _ => hs_, fun _ => rfl, fun h0_ => absurd ((hoff 8 (by kernel_rfl)).symm.trans h0_) (by decide), fun h0_ => absurd ((hoff 9 (by kernel_rfl)).symm.trans h0_) (by decide), fun h0_ => absurd ((hoff 11 (by kernel_rfl)).symm.trans h0_) (by decide)⟩
  refine steps_cons ?_ ?_
  ·rintro b a w' ⟨s, m7_, m8_, m9_, m11_, ha, Q_HB, Q_HO, Q_HS, Q_X7_, Q_X8_, Q_X9_, Q_X11_⟩ hb_ hon hoff
   refine ⟨_, rfl, fun K hK => ?_⟩
   have e20 : a.tmps[20]? = some (m7_) := by rw [ha]; exact putSel_on (e := (7, 20, m7_)) 7 rfl rfl (hon 7 (by kernel_rfl)) rfl
   rw [Q_X7_ (hon 7 (by kernel_rfl))] at e20
   replace ha := Aside0.mk ha
   have HB := Aside0.mk Q_HB
   have HO := Aside0.mk (Q_HO (hon 7 (by kernel_rfl)))
   have HS := Aside0.mk (Q_HS (hon 7 (by kernel_rfl)))
   refine value_ (w1 := w') (v := .tuple #[s.v, .int .i64 (M.rdE (L.pl n))]) (by rfl) rfl ?_ ?_
   ·go_simp
    (try simp only [i64_w])
    try rfl
   refine hK.out _ _ ⟨s, m7_, (.tuple #[s.v, .int .i64 (M.rdE (L.pl n))]), m9_, m11_, (by rw [ha.out]; exact putSel_upk 8 hb_ rfl rfl rfl), Q_HB, Q_HO, Q_HS, Q_X7_, fun _ => rfl, fun h0_ => absurd ((hoff 9 (by kernel_rfl)).symm.trans h0_) (by decide), fun h0_ => absurd ((hoff 11 (by kernel_rfl)).symm.trans h0_) (by decide)⟩
  refine steps_cons ?_ ?_
  ·rintro b a w' ⟨s, m7_, m8_, m9_, m11_, ha, Q_HB, Q_HO, Q_HS, Q_X7_, Q_X8_, Q_X9_, Q_X11_⟩ hb_ hon hoff
   refine ⟨_, rfl, fun K hK => ?_⟩
   have e12 : a.tmps[12]? = some (m8_) := by rw [ha]; exact putSel_on (e := (8, 12, m8_)) 8 rfl rfl (hon 8 (by kernel_rfl)) rfl
   rw [Q_X8_ (hon 8 (by kernel_rfl))] at e12
   replace ha := Aside0.mk ha
   have HB := Aside0.mk Q_HB
   have HO := Aside0.mk (Q_HO (hon 7 (by kernel_rfl)))
   have HS := Aside0.mk (Q_HS (hon 7 (by kernel_rfl)))
   refine value_ (w1 := w') (v := s.v) (by rfl) rfl ?_ ?_
   ·go_simp
    (try simp only [i64_w])
    try rfl
   refine hK.out _ _ ⟨s, m7_, m8_, (s.v), m11_, (by rw [ha.out]; exact putSel_upk 9 hb_ rfl rfl rfl), Q_HB, Q_HO, Q_HS, Q_X7_, Q_X8_, fun _ => rfl, fun h0_ => absurd ((hoff 11 (by kernel_rfl)).symm.trans h0_) (by decide)⟩
  refine steps_cons ?_ ?_
  ·rintro b a w' ⟨s, m7_, m8_, m9_, m11_, ha, Q_HB, Q_HO, Q_HS, Q_X7_, Q_X8_, Q_X9_, Q_X11_⟩ hb_ hon hoff
   refine ⟨_, rfl, fun K hK => ?_⟩
   have e12 : a.tmps[12]? = some (m8_) := by rw [ha]; exact putSel_on (e := (8, 12, m8_)) 8 rfl rfl (hon 8 (by kernel_rfl)) rfl
   rw [Q_X8_ (hon 8 (by kernel_rfl))] at e12
   replace ha := Aside0.mk ha
   have HB := Aside0.mk Q_HB
   have HO := Aside0.mk (Q_HO (hon 7 (by kernel_rfl)))
   have HS := Aside0.mk (Q_HS (hon 7 (by kernel_rfl)))
   refine value_ (w1 := w') (v := .int .i64 (M.rdE (L.pl n))) (by rfl) rfl ?_ ?_
   ·go_simp
    (try simp only [i64_w])
    try rfl
   refine hK.out _ _ ⟨s, m7_, m8_, m9_, m11_, (by rw [ha.out]; exact putSel_upk 10 hb_ rfl rfl rfl), Q_HB, Q_HO, Q_HS, Q_X7_, Q_X8_, Q_X9_, Q_X11_⟩
  refine steps_cons ?_ ?_
  ·rintro b a w' ⟨s, m7_, m8_, m9_, m11_, ha, Q_HB, Q_HO, Q_HS, Q_X7_, Q_X8_, Q_X9_, Q_X11_⟩ hb_ hon hoff
   refine ⟨_, rfl, fun K hK => ?_⟩
   have e21 : a.tmps[21]? = some (m9_) := by rw [ha]; exact putSel_on (e := (9, 21, m9_)) 9 rfl rfl (hon 9 (by kernel_rfl)) rfl
   rw [Q_X9_ (hon 9 (by kernel_rfl))] at e21
   replace ha := Aside0.mk ha
   have HB := Aside0.mk Q_HB
   have HO := Aside0.mk (Q_HO (hon 7 (by kernel_rfl)))
   have HS := Aside0.mk (Q_HS (hon 7 (by kernel_rfl)))
   refine value_ (w1 := w') (v := s.v) (by rfl) rfl ?_ ?_
   ·go_simp
    (try simp only [i64_w])
    try rfl
   refine hK.out _ _ ⟨s, m7_, m8_, m9_, (s.v), (by rw [ha.out]; exact putSel_upk 11 hb_ rfl rfl rfl), Q_HB, Q_HO, Q_HS, Q_X7_, Q_X8_, Q_X9_, fun _ => rfl⟩
  refine steps_cons ?_ ?_
  ·rintro b a w' ⟨s, m7_, m8_, m9_, m11_, ha, Q_HB, Q_HO, Q_HS, Q_X7_, Q_X8_, Q_X9_, Q_X11_⟩ hb_ hon hoff
   refine ⟨_, rfl, fun K hK => ?_⟩
   have e22 : a.tmps[22]? = some (.int .i64 (M.rdE (L.pl n))) := by rw [ha]; exact putSel_on (e := (10, 22, .int .i64 (M.rdE (L.pl n)))) 10 rfl rfl (hon 10 (by kernel_rfl)) rfl
   replace ha := Aside0.mk ha
   have HB := Aside0.mk Q_HB
   have HO := Aside0.mk (Q_HO (hon 7 (by kernel_rfl)))
   have HS := Aside0.mk (Q_HS (hon 7 (by kernel_rfl)))
   refine value_ (w1 := w') (v := .int .i64 (M.rdE (L.pl n))) (by rfl) rfl ?_ ?_
   ·go_simp
    (try simp only [i64_w])
    try rfl
   refine hK.out _ _ ⟨s, m7_, m8_, m9_, m11_, (by rw [ha.out]; exact putSel_upk 12 hb_ rfl rfl rfl), Q_HB, Q_HO, Q_HS, Q_X7_, Q_X8_, Q_X9_, Q_X11_⟩
  exact steps_nil
 rintro b a w' hall ⟨s, m7_, m8_, m9_, m11_, ha, Q_HB, Q_HO, Q_HS, Q_X7_, Q_X8_, Q_X9_, Q_X11_⟩
 clear HB
 have hb0_ := hall 0 (by kernel_rfl)
 have hb1_ := hall 1 (by kernel_rfl)
 have hb2_ := hall 2 (by kernel_rfl)
 have hb3_ := hall 3 (by kernel_rfl)
 have hb4_ := hall 4 (by kernel_rfl)
 have hb5_ := hall 5 (by kernel_rfl)
 have hb6_ := hall 6 (by kernel_rfl)
 have hb7_ := hall 7 (by kernel_rfl)
 have hb8_ := hall 8 (by kernel_rfl)
 have hb9_ := hall 9 (by kernel_rfl)
 have hb10_ := hall 10 (by kernel_rfl)
 have hb11_ := hall 11 (by kernel_rfl)
 have hb12_ := hall 12 (by kernel_rfl)
 subst ha
 obtain rfl := Q_X7_ hb7_
 obtain rfl := Q_X8_ hb8_
 obtain rfl := Q_X9_ hb9_
 obtain rfl := Q_X11_ hb11_
 simp only [putSel, hb0_, hb1_, hb2_, hb3_, hb4_, hb5_, hb6_, hb7_, hb8_, hb9_, hb10_, hb11_, hb12_, if_true, Act.put, List.setIfInBounds_toArray, List.set_cons_zero, List.set_cons_succ]
 have HB := Aside0.mk Q_HB
 clear Q_HB
 have HO := Aside0.mk (Q_HO hb7_)
 clear Q_HO
 have HS := Aside0.mk (Q_HS hb7_)
 clear Q_HS
 clear hall hb0_ hb1_ hb2_ hb3_ hb4_ hb5_ hb6_ hb7_ hb8_ hb9_ hb10_ hb11_ hb12_
 obtain ⟨E, hE⟩ : ∃ E, E = M.rdE (L.pl n) := ⟨_, rfl⟩
 simp only [← hE]
 have HE := Aside0.mk hE
 have HB' := Aside0.mk ((HB.out.block k4 (blk_lt BR.out)).trans BR.out)
 have c0 : w'.cell? ⟨k4, 0, none⟩ = some (.int .u64 0) := (blk_cell HB'.out 0).trans rfl
 have c1 : w'.cell? ⟨k4, 1, none⟩ = some (.bool false) := (blk_cell HB'.out 1).trans rfl
 have c2 : w'.cell? ⟨k4, 2, none⟩ = some (.string ⟨#[]⟩) := (blk_cell HB'.out 2).trans rfl
 have f0 : w'.frozen? ⟨k4, 0, none⟩ = false := blk_frozen HB'.out 0
 have f1 : w'.frozen? ⟨k4, 1, none⟩ = false := blk_frozen HB'.out 1
 have f2 : w'.frozen? ⟨k4, 2, none⟩ = false := blk_frozen HB'.out 2
 have B1 := Aside0.mk (B0.out.trans (HB.out.mono B0.out.size))
 clear Q_X7_ Q_X8_ Q_X9_ Q_X11_ hE HT_ HW_ h0 h1
 by_cases h9 : E = 9
 ·subst h9
  go_wp2
  (try simp only [Exit.inBlock, Exit.then])
  refine bodyPost_ret (results_cell2 rfl _ _ k4 98 _ _ _ rfl (blk_put (blk_put (blk_put HB'.out 0 _ rfl) 1 _ rfl) 2 _ rfl) Try.underlying98 rfl (by kernel_rfl)) rfl ?_
  refine ⟨?_, below_set (below_set (below_set B1.out HK4.out) HK4.out) HK4.out⟩
  rw [show L.rd M n = ⟨0, false, ⟨#[]⟩, false, 0⟩ by unfold LA.rd; rw [← HE.out]; rfl]
  rfl
 ·by_cases hz : E = 0
  ·subst hz
   clear c0 c1 c2 f0 f1 f2
   go_wp2_with fail
   obtain ⟨hc_, hC_⟩ := own_C (A := s.a) (c := s.c) (l := s.b) HO.out
   refine (rd_read (w0 := w') (Below.refl _ _) hC_ hc_ (by rw [HS.out]; exact hY.rdB _)).mono ?_
   rintro e w2 ⟨gr, rfl, hr, hb, hgr⟩
   have HR := Aside0.mk hr
   have HBr := Aside0.mk hb
   clear hr hb hc_ hC_ hgr h9
   go_wp2_with fail
   refine (rd_num HR.out HBr.out _).mono ?_
   rintro e w3 ⟨rfl, hr, hb, _⟩
   obtain ⟨q1, hq1⟩ : ∃ q, q = rnum ⟨s.b, 0⟩ 9223372036854775807 := ⟨_, rfl⟩
   rw [← hq1] at hr ⊢
   have HQ1 := Aside0.mk hq1
   clear HR HBr hq1
   have HR := Aside0.mk hr
   have HBr := Aside0.mk hb
   clear hr hb
   go_wp2_with fail
   refine (rd_num HR.out HBr.out _).mono ?_
   rintro e w4 ⟨rfl, hr, hb, _⟩
   obtain ⟨q2, hq2⟩ : ∃ q, q = rnum q1.2 1099511627776 := ⟨_, rfl⟩
   rw [← hq2] at hr ⊢
   have HQ2 := Aside0.mk hq2
   clear HR HBr hq2
   have HR := Aside0.mk hr
   have HBr := Aside0.mk hb
   clear hr hb
   go_wp2_with fail
   have HT := Aside0.mk (blk_new w4 (.cells #[.int .u64 q2.1, .bool false, .string ⟨#[]⟩] 98 (0, 0)))
   have HR5 := Aside0.mk (HR.out.alloc (.cells #[.int .u64 q2.1, .bool false, .string ⟨#[]⟩] 98 (0, 0)))
   have HB5 := Aside0.mk (below_alloc HBr.out (.cells #[.int .u64 q2.1, .bool false, .string ⟨#[]⟩] 98 (0, 0)))
   obtain ⟨k11, hk11⟩ : ∃ k, k = w4.heap.size := ⟨_, rfl⟩
   have hne := Aside0.mk (show k11 ≠ gr by have := HR.out.lt; omega)
   have hge := Aside0.mk (show w'.heap.size ≤ k11 by rw [hk11]; exact HBr.out.size)
   rw [← hk11] at HT ⊢
   clear HR HBr hk11
   generalize w4.alloc _ = w5 at HT HR5 HB5 ⊢
   refine (rd_num HR5.out HB5.out _).mono ?_
   rintro e w6 ⟨rfl, hr, hb, hkp⟩
   obtain ⟨q3, hq3⟩ : ∃ q, q = rnum q2.2 1 := ⟨_, rfl⟩
   rw [← hq3] at hr ⊢
   have HQ3 := Aside0.mk hq3
   have HT6 := Aside0.mk ((hkp.2 k11 (blk_lt HT.out) hne.out (by simp)).trans HT.out)
   clear HR5 HB5 hq3 HT hkp
   have HR := Aside0.mk hr
   have HBr := Aside0.mk hb
   clear hr hb
   have y1 : w6.cell? ⟨k11, 1, none⟩ = some (.bool false) := (blk_cell HT6.out 1).trans rfl
   have z1 : w6.frozen? ⟨k11, 1, none⟩ = false := blk_frozen HT6.out 1
   go_wp2_with fail
   obtain ⟨bl, hbl⟩ : ∃ x, x = (q3.1 == 1) := ⟨_, rfl⟩
   simp only [← hbl]
   have HT7 := Aside0.mk (blk_put HT6.out 1 (.bool bl) rfl)
   have HR7 := Aside0.mk (HR.out.far (p := ⟨k11, 1, none⟩) hne.out.symm (.bool bl))
   have HB7 := Aside0.mk (show Below w'.heap.size w' (w6.setCell ⟨k11, 1, none⟩ (.bool bl)) from below_set HBr.out hge.out)
   clear HR HBr HT6 y1 z1
   generalize w6.setCell _ _ = w7 at HT7 HR7 HB7 ⊢
   refine (rd_text HR7.out HB7.out 480 (by decide) (by decide)).mono ?_
   rintro e w8 ⟨rfl, hr, hb, hkp⟩
   obtain ⟨q4, hq4⟩ : ∃ q, q = rtext q3.2 480 := ⟨_, rfl⟩
   rw [← hq4] at hr ⊢
   have HQ4 := Aside0.mk hq4
   have HT8 := Aside0.mk ((hkp.2 k11 (blk_lt HT7.out) hne.out (by simp)).trans HT7.out)
   clear HR7 HB7 hq4 HT7 hkp
   have HR := Aside0.mk hr
   have HBr := Aside0.mk hb
   clear hr hb
   have y1 : w8.cell? ⟨k11, 2, none⟩ = some (.string ⟨#[]⟩) := (blk_cell HT8.out 2).trans rfl
   have z1 : w8.frozen? ⟨k11, 2, none⟩ = false := blk_frozen HT8.out 2
   go_upto_region 11 with fail
   obtain ⟨st, hst⟩ : ∃ x, x = q4.1 := ⟨_, rfl⟩
   simp only [← hst]
   have HT9 := Aside0.mk (blk_put HT8.out 2 (.string st) rfl)
   have HR9 := Aside0.mk (HR.out.far (p := ⟨k11, 2, none⟩) hne.out.symm (.string st))
   have HB9 := Aside0.mk (show Below w'.heap.size w' (w8.setCell ⟨k11, 2, none⟩ (.string st)) from below_set HBr.out hge.out)
   clear HR HBr HT8 y1 z1
   generalize w8.setCell _ _ = w9 at HT9 HR9 HB9 ⊢
   obtain ⟨wx, hwx⟩ : ∃ x, x = w' := ⟨_, rfl⟩
   subst hwx
   have HT := HT9
   have HR := HR9
   have R0 := Aside0.mk ((HB9.out.block k4 (blk_lt HB'.out)).trans HB'.out)
   have HB := Aside0.mk (B1.out.trans (HB9.out.mono B1.out.size))
   have hneR := Aside0.mk (show gr ≠ k4 by have h_ := HR9.out.ge; have h2_ := blk_lt HB'.out; omega)
   have hne11 := Aside0.mk (show k11 ≠ k4 by have h_ := hge.out; have h2_ := blk_lt HB'.out; omega)
   have hnw := Aside0.mk (show IntKind.u64.wrap (n + 1) = n + 1 from wu64 (by have := hn.out; omega) (by have := hn.out; omega))
   clear HT9 HR9 HB9 hge hne
   by_cases he4 : q4.2.e = 0
   ·have hq4 := Aside0.mk (show (q4.2.e == 0) = true by simp [he4])
    clear he4
    refine start_ (n := 13) (S := fun w' => True) (ds := []) #[false, false, false, false, false, false, false, false, false, false, false, false, false] (by kernel_rfl) rfl rfl trivial (fun hHeld => ?_)
    refine with_tabW wlrd11t.tab11 wlrd11t.bits11 (fun HT_ HW_ => ?_)
    have n0_ := Aside0.mk (blk_drew HT.out)
    have n1_ := Aside0.mk (HR.out.drew)
    have n2_ := Aside0.mk (blk_drew R0.out)
    have n3_ := Aside0.mk (below_drew HB.out)
    clear HT HR R0 HB
    generalize World.drew _ = wd at n0_ n1_ n2_ n3_ hHeld ⊢
    have HT := n0_
    have HR := n1_
    have R0 := n2_
    have HB := n3_
    clear hHeld n0_ n1_ n2_ n3_
    refine inv_at [0, 1, 2, 3, 4, 5, 6, 7, 8, 9, 10, 11, 12] (fun a0_ b a w' => a = putSel a0_ b [(0, 46, .agg #[.int .u64 q2.1, .bool bl, .string st]), (1, 47, .pointer (some ⟨gr, 0, none⟩)), (2, 48, .int .i64 q4.2.e), (3, 49, .bool true), (4, 50, .bool true), (5, 51, .int .u64 q1.1), (6, 52, .int .u64 n), (7, 53, .int .u64 (n + 1)), (8, 54, .bool (q1.1 == n + 1)), (9, 55, .bool (q1.1 == n + 1)), (11, 5, .bool (q1.1 == n + 1)), (12, 6, .int .i64 0)] ∧ (w'.heap[k11]? = some (.cells #[.int .u64 q2.1, .bool bl, .string st] 98 (0, 0))) ∧ (Rdr wx w' gr q4.2) ∧ (b 10 = false → w'.heap[k4]? = some (.cells #[.int .u64 0, .bool false, .string ⟨#[]⟩] 98 (0, 0))) ∧ (b 10 = true → w'.heap[k4]? = some (.cells #[.int .u64 q2.1, .bool bl, .string st] 98 (0, 0))) ∧ (Below w.heap.size w w')) HT_.out HW_.out (by kernel_rfl) (by kernel_rfl) ?_ ?_ ?_
    ·exact ⟨by simp only [putSel, Bool.false_eq_true, if_false], HT.out, HR.out, fun _ => R0.out, fun h_ => absurd h_ (by decide), HB.out⟩
    ·skip
     clear HB HR HT R0
     refine steps_cons ?_ ?_
     ·rintro b a w' ⟨ha, Q_HT, Q_HR, Q_R0, Q_R1, Q_HB⟩ hb_ hon hoff
      refine ⟨_, rfl, fun K hK => ?_⟩
      have e11 : a.tmps[11]? = some (.pointer (some ⟨k11, 0, none⟩)) := by rw [ha]; exact (putSel_off rfl).trans rfl
      replace ha := Aside0.mk ha
      have HT := Aside0.mk Q_HT
      have HR := Aside0.mk Q_HR
      have R0 := Aside0.mk (Q_R0 (hoff 10 (by kernel_rfl)))
      have HB := Aside0.mk Q_HB
      have hy0_ : w'.cell? ⟨k11, 0, none⟩ = some (.int .u64 q2.1) := (blk_cell HT.out 0).trans rfl
      have hy1_ : w'.cell? ⟨k11, 1, none⟩ = some (.bool bl) := (blk_cell HT.out 1).trans rfl
      have hy2_ : w'.cell? ⟨k11, 2, none⟩ = some (.string st) := (blk_cell HT.out 2).trans rfl
      refine value_ (w1 := w') (v := .agg #[.int .u64 q2.1, .bool bl, .string st]) (by rfl) rfl ?_ ?_
      ·go_simp
       (try simp only [i64_w])
       try rfl
      refine hK.out _ _ ⟨(by rw [ha.out]; exact putSel_upk 0 hb_ rfl rfl rfl), Q_HT, Q_HR, Q_R0, fun h0_ => absurd ((hoff 10 (by kernel_rfl)).symm.trans h0_) (by decide), Q_HB⟩
     refine steps_cons ?_ ?_
     ·rintro b a w' ⟨ha, Q_HT, Q_HR, Q_R0, Q_R1, Q_HB⟩ hb_ hon hoff
      refine ⟨_, rfl, fun K hK => ?_⟩
      have e9 : a.tmps[9]? = some (.pointer (some ⟨gr, 0, none⟩)) := by rw [ha]; exact (putSel_off rfl).trans rfl
      replace ha := Aside0.mk ha
      have HT := Aside0.mk Q_HT
      have HR := Aside0.mk Q_HR
      have R0 := Aside0.mk (Q_R0 (hoff 10 (by kernel_rfl)))
      have HB := Aside0.mk Q_HB
      refine value_ (w1 := w') (v := .pointer (some ⟨gr, 0, none⟩)) (by rfl) rfl ?_ ?_
      ·go_simp
       (try simp only [i64_w])
       try rfl
      refine hK.out _ _ ⟨(by rw [ha.out]; exact putSel_upk 1 hb_ rfl rfl rfl), Q_HT, Q_HR, Q_R0, fun h0_ => absurd ((hoff 10 (by kernel_rfl)).symm.trans h0_) (by decide), Q_HB⟩
     refine steps_cons ?_ ?_
     ·rintro b a w' ⟨ha, Q_HT, Q_HR, Q_R0, Q_R1, Q_HB⟩ hb_ hon hoff
      refine ⟨_, rfl, fun K hK => ?_⟩
      have e47 : a.tmps[47]? = some (.pointer (some ⟨gr, 0, none⟩)) := by rw [ha]; exact putSel_on (e := (1, 47, .pointer (some ⟨gr, 0, none⟩))) 1 rfl rfl (hon 1 (by kernel_rfl)) rfl
      replace ha := Aside0.mk ha
      have HT := Aside0.mk Q_HT
      have HR := Aside0.mk Q_HR
      have R0 := Aside0.mk (Q_R0 (hoff 10 (by kernel_rfl)))
      have HB := Aside0.mk Q_HB
      refine goes_ Try.func63 (by kernel_rfl) rfl #[.pointer (some ⟨gr, 0, none⟩)] (by rfl) rfl rfl (by first | (simp only [List.map_toArray, List.map_cons, List.map_nil, Act.eval, Array.getD_eq_getD_getElem?, Option.getD_some, e47]; done) | (simp only [List.map_toArray, List.map_cons, List.map_nil, Act.eval, Array.getD_eq_getD_getElem?, Option.getD_some, e47]; rfl)) ?_
      refine (rd_err HR.out).mono ?_
      rintro e_ wn_ ⟨rfl, rfl⟩
      refine ⟨_, rfl, ?_⟩
      refine hK.out _ _ ⟨(by rw [ha.out]; exact putSel_upk 2 hb_ rfl rfl rfl), HT.out, HR.out, fun _ => R0.out, fun h0_ => absurd ((hoff 10 (by kernel_rfl)).symm.trans h0_) (by decide), HB.out⟩
     refine steps_cons ?_ ?_
     ·rintro b a w' ⟨ha, Q_HT, Q_HR, Q_R0, Q_R1, Q_HB⟩ hb_ hon hoff
      refine ⟨_, rfl, fun K hK => ?_⟩
      have e48 : a.tmps[48]? = some (.int .i64 q4.2.e) := by rw [ha]; exact putSel_on (e := (2, 48, .int .i64 q4.2.e)) 2 rfl rfl (hon 2 (by kernel_rfl)) rfl
      replace ha := Aside0.mk ha
      have HT := Aside0.mk Q_HT
      have HR := Aside0.mk Q_HR
      have R0 := Aside0.mk (Q_R0 (hoff 10 (by kernel_rfl)))
      have HB := Aside0.mk Q_HB
      have hq_ := hq4.out
      refine value_ (w1 := w') (v := .bool true) (by rfl) rfl ?_ ?_
      ·go_simp
       (try simp only [i64_w])
       try rfl
      refine hK.out _ _ ⟨(by rw [ha.out]; exact putSel_upk 3 hb_ rfl rfl rfl), Q_HT, Q_HR, Q_R0, fun h0_ => absurd ((hoff 10 (by kernel_rfl)).symm.trans h0_) (by decide), Q_HB⟩
     refine steps_cons ?_ ?_
     ·rintro b a w' ⟨ha, Q_HT, Q_HR, Q_R0, Q_R1, Q_HB⟩ hb_ hon hoff
      refine ⟨_, rfl, fun K hK => ?_⟩
      have e49 : a.tmps[49]? = some (.bool true) := by rw [ha]; exact putSel_on (e := (3, 49, .bool true)) 3 rfl rfl (hon 3 (by kernel_rfl)) rfl
      replace ha := Aside0.mk ha
      have HT := Aside0.mk Q_HT
      have HR := Aside0.mk Q_HR
      have R0 := Aside0.mk (Q_R0 (hoff 10 (by kernel_rfl)))
      have HB := Aside0.mk Q_HB
      refine value_ (w1 := w') (v := .bool true) (by rfl) rfl ?_ ?_
      ·go_simp
       (try simp only [i64_w])
       try rfl
      refine hK.out _ _ ⟨(by rw [ha.out]; exact putSel_upk 4 hb_ rfl rfl rfl), Q_HT, Q_HR, Q_R0, fun h0_ => absurd ((hoff 10 (by kernel_rfl)).symm.trans h0_) (by decide), Q_HB⟩
     refine steps_cons ?_ ?_
     ·rintro b a w' ⟨ha, Q_HT, Q_HR, Q_R0, Q_R1, Q_HB⟩ hb_ hon hoff
      refine ⟨_, rfl, fun K hK => ?_⟩
      have e10 : a.tmps[10]? = some (.int .u64 q1.1) := by rw [ha]; exact (putSel_off rfl).trans rfl
      have e50 : a.tmps[50]? = some (.bool true) := by rw [ha]; exact putSel_on (e := (4, 50, .bool true)) 4 rfl rfl (hon 4 (by kernel_rfl)) rfl
      replace ha := Aside0.mk ha
      have HT := Aside0.mk Q_HT
      have HR := Aside0.mk Q_HR
      have HB := Aside0.mk Q_HB
      refine value_ (w1 := w') (v := .int .u64 q1.1) (wanted_on rfl rfl rfl (e50.trans (by first | rfl | (simp [*]; done)))) rfl ?_ ?_
      ·go_simp
       (try simp only [i64_w])
       try rfl
      refine hK.out _ _ ⟨(by rw [ha.out]; exact putSel_upk 5 hb_ rfl rfl rfl), Q_HT, Q_HR, Q_R0, Q_R1, Q_HB⟩
     refine steps_cons ?_ ?_
     ·rintro b a w' ⟨ha, Q_HT, Q_HR, Q_R0, Q_R1, Q_HB⟩ hb_ hon hoff
      refine ⟨_, rfl, fun K hK => ?_⟩
      have e1 : a.tmps[1]? = some (.int .u64 n) := by rw [ha]; exact (putSel_off rfl).trans rfl
      have e50 : a.tmps[50]? = some (.bool true) := by rw [ha]; exact putSel_on (e := (4, 50, .bool true)) 4 rfl rfl (hon 4 (by kernel_rfl)) rfl
      replace ha := Aside0.mk ha
      have HT := Aside0.mk Q_HT
      have HR := Aside0.mk Q_HR
      have HB := Aside0.mk Q_HB
      refine value_ (w1 := w') (v := .int .u64 n) (wanted_on rfl rfl rfl (e50.trans (by first | rfl | (simp [*]; done)))) rfl ?_ ?_
      ·go_simp
       (try simp only [i64_w])
       try rfl
      refine hK.out _ _ ⟨(by rw [ha.out]; exact putSel_upk 6 hb_ rfl rfl rfl), Q_HT, Q_HR, Q_R0, Q_R1, Q_HB⟩
     refine steps_cons ?_ ?_
     ·rintro b a w' ⟨ha, Q_HT, Q_HR, Q_R0, Q_R1, Q_HB⟩ hb_ hon hoff
      refine ⟨_, rfl, fun K hK => ?_⟩
      have e52 : a.tmps[52]? = some (.int .u64 n) := by rw [ha]; exact putSel_on (e := (6, 52, .int .u64 n)) 6 rfl rfl (hon 6 (by kernel_rfl)) rfl
      have e50 : a.tmps[50]? = some (.bool true) := by rw [ha]; exact putSel_on (e := (4, 50, .bool true)) 4 rfl rfl (hon 4 (by kernel_rfl)) rfl
      replace ha := Aside0.mk ha
      have HT := Aside0.mk Q_HT
      have HR := Aside0.mk Q_HR
      have HB := Aside0.mk Q_HB
      have hw_ := hnw.out
      refine value_ (w1 := w') (v := .int .u64 (n + 1)) (wanted_on rfl rfl rfl (e50.trans (by first | rfl | (simp [*]; done)))) rfl ?_ ?_
      ·go_simp
       (try simp only [i64_w])
       try rfl
      refine hK.out _ _ ⟨(by rw [ha.out]; exact putSel_upk 7 hb_ rfl rfl rfl), Q_HT, Q_HR, Q_R0, Q_R1, Q_HB⟩
     refine steps_cons ?_ ?_
     ·rintro b a w' ⟨ha, Q_HT, Q_HR, Q_R0, Q_R1, Q_HB⟩ hb_ hon hoff
      refine ⟨_, rfl, fun K hK => ?_⟩
      have e51 : a.tmps[51]? = some (.int .u64 q1.1) := by rw [ha]; exact putSel_on (e := (5, 51, .int .u64 q1.1)) 5 rfl rfl (hon 5 (by kernel_rfl)) rfl
      have e53 : a.tmps[53]? = some (.int .u64 (n + 1)) := by rw [ha]; exact putSel_on (e := (7, 53, .int .u64 (n + 1))) 7 rfl rfl (hon 7 (by kernel_rfl)) rfl
      have e50 : a.tmps[50]? = some (.bool true) := by rw [ha]; exact putSel_on (e := (4, 50, .bool true)) 4 rfl rfl (hon 4 (by kernel_rfl)) rfl
      replace ha := Aside0.mk ha
      have HT := Aside0.mk Q_HT
      have HR := Aside0.mk Q_HR
      have HB := Aside0.mk Q_HB
      refine value_ (w1 := w') (v := .bool (q1.1 == n + 1)) (wanted_on rfl rfl rfl (e50.trans (by first | rfl | (simp [*]; done)))) rfl ?_ ?_
      ·go_simp
       (try simp only [i64_w])
       try rfl
      refine hK.out _ _ ⟨(by rw [ha.out]; exact putSel_upk 8 hb_ rfl rfl rfl), Q_HT, Q_HR, Q_R0, Q_R1, Q_HB⟩
     refine steps_cons ?_ ?_
     ·rintro b a w' ⟨ha, Q_HT, Q_HR, Q_R0, Q_R1, Q_HB⟩ hb_ hon hoff
      refine ⟨_, rfl, fun K hK => ?_⟩
      have e50 : a.tmps[50]? = some (.bool true) := by rw [ha]; exact putSel_on (e := (4, 50, .bool true)) 4 rfl rfl (hon 4 (by kernel_rfl)) rfl
      have e54 : a.tmps[54]? = some (.bool (q1.1 == n + 1)) := by rw [ha]; exact putSel_on (e := (8, 54, .bool (q1.1 == n + 1))) 8 rfl rfl (hon 8 (by kernel_rfl)) rfl
      replace ha := Aside0.mk ha
      have HT := Aside0.mk Q_HT
      have HR := Aside0.mk Q_HR
      have HB := Aside0.mk Q_HB
      refine value_ (w1 := w') (v := .bool (q1.1 == n + 1)) (by rfl) rfl ?_ ?_
      ·go_simp
       (try simp only [i64_w])
       try rfl
      refine hK.out _ _ ⟨(by rw [ha.out]; exact putSel_upk 9 hb_ rfl rfl rfl), Q_HT, Q_HR, Q_R0, Q_R1, Q_HB⟩
     refine steps_cons ?_ ?_
     ·rintro b a w' ⟨ha, Q_HT, Q_HR, Q_R0, Q_R1, Q_HB⟩ hb_ hon hoff
      refine ⟨_, rfl, fun K hK => ?_⟩
      have e4 : a.tmps[4]? = some (.pointer (some ⟨k4, 0, none⟩)) := by rw [ha]; exact (putSel_off rfl).trans rfl
      have e46 : a.tmps[46]? = some (.agg #[.int .u64 q2.1, .bool bl, .string st]) := by rw [ha]; exact putSel_on (e := (0, 46, .agg #[.int .u64 q2.1, .bool bl, .string st])) 0 rfl rfl (hon 0 (by kernel_rfl)) rfl
      replace ha := Aside0.mk ha
      have HT := Aside0.mk Q_HT
      have HR := Aside0.mk Q_HR
      have R0 := Aside0.mk (Q_R0 hb_)
      have HB := Aside0.mk Q_HB
      have hz0_ : w'.cell? ⟨k4, 0, none⟩ = some (.int .u64 0) := (blk_cell R0.out 0).trans rfl
      have hz1_ : w'.cell? ⟨k4, 1, none⟩ = some (.bool false) := (blk_cell R0.out 1).trans rfl
      have hz2_ : w'.cell? ⟨k4, 2, none⟩ = some (.string ⟨#[]⟩) := (blk_cell R0.out 2).trans rfl
      have hf0_ : w'.frozen? ⟨k4, 0, none⟩ = false := blk_frozen R0.out 0
      have hf1_ : w'.frozen? ⟨k4, 1, none⟩ = false := blk_frozen R0.out 1
      have hf2_ : w'.frozen? ⟨k4, 2, none⟩ = false := blk_frozen R0.out 2
      refine skip_ (w1 := ((w'.setCell ⟨k4, 0, none⟩ (.int .u64 q2.1)).setCell ⟨k4, 1, none⟩ (.bool bl)).setCell ⟨k4, 2, none⟩ (.string st)) (by rfl) rfl ?_ ?_
      ·go_simp
       try rfl
      refine hK.out _ _ ⟨(by rw [ha.out]; exact putSel_none (v := undef) rfl), (blk_far (blk_far (blk_far HT.out (p := ⟨k4, 0, none⟩) hne11.out _) (p := ⟨k4, 1, none⟩) hne11.out _) (p := ⟨k4, 2, none⟩) hne11.out _), (((HR.out.far (p := ⟨k4, 0, none⟩) hneR.out _).far (p := ⟨k4, 1, none⟩) hneR.out _).far (p := ⟨k4, 2, none⟩) hneR.out _), fun h0_ => absurd ((up_self b 10).symm.trans h0_) (by decide), fun _ => (blk_put (blk_put (blk_put R0.out 0 _ rfl) 1 _ rfl) 2 _ rfl), (below_set (below_set (below_set HB.out HK4.out) HK4.out) HK4.out)⟩
     refine steps_cons ?_ ?_
     ·rintro b a w' ⟨ha, Q_HT, Q_HR, Q_R0, Q_R1, Q_HB⟩ hb_ hon hoff
      refine ⟨_, rfl, fun K hK => ?_⟩
      have e55 : a.tmps[55]? = some (.bool (q1.1 == n + 1)) := by rw [ha]; exact putSel_on (e := (9, 55, .bool (q1.1 == n + 1))) 9 rfl rfl (hon 9 (by kernel_rfl)) rfl
      replace ha := Aside0.mk ha
      have HT := Aside0.mk Q_HT
      have HR := Aside0.mk Q_HR
      have R1 := Aside0.mk (Q_R1 (hon 10 (by kernel_rfl)))
      have HB := Aside0.mk Q_HB
      refine value_ (w1 := w') (v := .bool (q1.1 == n + 1)) (by rfl) rfl ?_ ?_
      ·go_simp
       (try simp only [i64_w])
       try rfl
      refine hK.out _ _ ⟨(by rw [ha.out]; exact putSel_upk 10 hb_ rfl rfl rfl), Q_HT, Q_HR, fun h0_ => absurd ((hon 10 (by kernel_rfl)).symm.trans h0_) (by decide), Q_R1, Q_HB⟩
     refine steps_cons ?_ ?_
     ·rintro b a w' ⟨ha, Q_HT, Q_HR, Q_R0, Q_R1, Q_HB⟩ hb_ hon hoff
      refine ⟨_, rfl, fun K hK => ?_⟩
      replace ha := Aside0.mk ha
      have HT := Aside0.mk Q_HT
      have HR := Aside0.mk Q_HR
      have R1 := Aside0.mk (Q_R1 (hon 10 (by kernel_rfl)))
      have HB := Aside0.mk Q_HB
      refine value_ (w1 := w') (v := .int .i64 0) (by rfl) rfl ?_ ?_
      ·go_simp
       (try simp only [i64_w])
       try rfl
      refine hK.out _ _ ⟨(by rw [ha.out]; exact putSel_upk 11 hb_ rfl rfl rfl), Q_HT, Q_HR, fun h0_ => absurd ((hon 10 (by kernel_rfl)).symm.trans h0_) (by decide), Q_R1, Q_HB⟩
     exact steps_nil
    rintro b a w' hall ⟨ha, Q_HT, Q_HR, Q_R0, Q_R1, Q_HB⟩
    clear HB HR HT R0
    have hb0_ := hall 0 (by kernel_rfl)
    have hb1_ := hall 1 (by kernel_rfl)
    have hb2_ := hall 2 (by kernel_rfl)
    have hb3_ := hall 3 (by kernel_rfl)
    have hb4_ := hall 4 (by kernel_rfl)
    have hb5_ := hall 5 (by kernel_rfl)
    have hb6_ := hall 6 (by kernel_rfl)
    have hb7_ := hall 7 (by kernel_rfl)
    have hb8_ := hall 8 (by kernel_rfl)
    have hb9_ := hall 9 (by kernel_rfl)
    have hb10_ := hall 10 (by kernel_rfl)
    have hb11_ := hall 11 (by kernel_rfl)
    have hb12_ := hall 12 (by kernel_rfl)
    subst ha
    simp only [putSel, hb0_, hb1_, hb2_, hb3_, hb4_, hb5_, hb6_, hb7_, hb8_, hb9_, hb10_, hb11_, hb12_, if_true, Act.put, List.setIfInBounds_toArray, List.set_cons_zero, List.set_cons_succ]
    have HT := Aside0.mk Q_HT
    clear Q_HT
    have HR := Aside0.mk Q_HR
    clear Q_HR Q_R0
    have R1 := Aside0.mk (Q_R1 hb10_)
    clear Q_R1
    have HB := Aside0.mk Q_HB
    clear Q_HB
    clear hall hb0_ hb1_ hb2_ hb3_ hb4_ hb5_ hb6_ hb7_ hb8_ hb9_ hb10_ hb11_ hb12_
    go_wp2
    (try simp only [Exit.inBlock, Exit.then])
    refine bodyPost_ret (results_cell2 rfl _ _ k4 98 _ _ _ rfl R1.out Try.underlying98 rfl (by kernel_rfl)) rfl ?_
    refine ⟨?_, HB.out⟩
    rw [show L.rd M n = prt s.b n by unfold LA.rd; rw [← HE.out, if_pos rfl, HS.out]]
    unfold prt
    rw [← HQ1.out, ← HQ2.out, ← HQ3.out, ← HQ4.out, hq4.out, ← hbl, ← hst, Bool.true_and]
    rfl
   ·have hq4 := Aside0.mk (show (q4.2.e == 0) = false by simp [he4])
    clear he4
    refine start_ (n := 13) (S := fun w' => True) (ds := []) #[false, false, false, false, false, false, false, false, false, false, false, false, false] (by kernel_rfl) rfl rfl trivial (fun hHeld => ?_)
    refine with_tabW wlrd11f.tab11 wlrd11f.bits11 (fun HT_ HW_ => ?_)
    have n0_ := Aside0.mk (blk_drew HT.out)
    have n1_ := Aside0.mk (HR.out.drew)
    have n2_ := Aside0.mk (blk_drew R0.out)
    have n3_ := Aside0.mk (below_drew HB.out)
    clear HT HR R0 HB
    generalize World.drew _ = wd at n0_ n1_ n2_ n3_ hHeld ⊢
    have HT := n0_
    have HR := n1_
    have R0 := n2_
    have HB := n3_
    clear hHeld n0_ n1_ n2_ n3_
    refine inv_at [0, 1, 2, 3, 4, 5, 6, 7, 8, 9, 10, 11, 12] (fun a0_ b a w' => a = putSel a0_ b [(0, 46, .agg #[.int .u64 q2.1, .bool bl, .string st]), (1, 47, .pointer (some ⟨gr, 0, none⟩)), (2, 48, .int .i64 q4.2.e), (3, 49, .bool false), (4, 50, .bool false), (5, 51, undef), (6, 52, undef), (7, 53, undef), (8, 54, undef), (9, 55, .bool false), (11, 5, .bool false), (12, 6, .int .i64 0)] ∧ (w'.heap[k11]? = some (.cells #[.int .u64 q2.1, .bool bl, .string st] 98 (0, 0))) ∧ (Rdr wx w' gr q4.2) ∧ (b 10 = false → w'.heap[k4]? = some (.cells #[.int .u64 0, .bool false, .string ⟨#[]⟩] 98 (0, 0))) ∧ (b 10 = true → w'.heap[k4]? = some (.cells #[.int .u64 q2.1, .bool bl, .string st] 98 (0, 0))) ∧ (Below w.heap.size w w')) HT_.out HW_.out (by kernel_rfl) (by kernel_rfl) ?_ ?_ ?_
    ·exact ⟨by simp only [putSel, Bool.false_eq_true, if_false], HT.out, HR.out, fun _ => R0.out, fun h_ => absurd h_ (by decide), HB.out⟩
    ·skip
     clear HB HR HT R0
     refine steps_cons ?_ ?_
     ·rintro b a w' ⟨ha, Q_HT, Q_HR, Q_R0, Q_R1, Q_HB⟩ hb_ hon hoff
      refine ⟨_, rfl, fun K hK => ?_⟩
      have e11 : a.tmps[11]? = some (.pointer (some ⟨k11, 0, none⟩)) := by rw [ha]; exact (putSel_off rfl).trans rfl
      replace ha := Aside0.mk ha
      have HT := Aside0.mk Q_HT
      have HR := Aside0.mk Q_HR
      have R0 := Aside0.mk (Q_R0 (hoff 10 (by kernel_rfl)))
      have HB := Aside0.mk Q_HB
      have hy0_ : w'.cell? ⟨k11, 0, none⟩ = some (.int .u64 q2.1) := (blk_cell HT.out 0).trans rfl
      have hy1_ : w'.cell? ⟨k11, 1, none⟩ = some (.bool bl) := (blk_cell HT.out 1).trans rfl
      have hy2_ : w'.cell? ⟨k11, 2, none⟩ = some (.string st) := (blk_cell HT.out 2).trans rfl
      refine value_ (w1 := w') (v := .agg #[.int .u64 q2.1, .bool bl, .string st]) (by rfl) rfl ?_ ?_
      ·go_simp
       (try simp only [i64_w])
       try rfl
      refine hK.out _ _ ⟨(by rw [ha.out]; exact putSel_upk 0 hb_ rfl rfl rfl), Q_HT, Q_HR, Q_R0, fun h0_ => absurd ((hoff 10 (by kernel_rfl)).symm.trans h0_) (by decide), Q_HB⟩
     refine steps_cons ?_ ?_
     ·rintro b a w' ⟨ha, Q_HT, Q_HR, Q_R0, Q_R1, Q_HB⟩ hb_ hon hoff
      refine ⟨_, rfl, fun K hK => ?_⟩
      have e9 : a.tmps[9]? = some (.pointer (some ⟨gr, 0, none⟩)) := by rw [ha]; exact (putSel_off rfl).trans rfl
      replace ha := Aside0.mk ha
      have HT := Aside0.mk Q_HT
      have HR := Aside0.mk Q_HR
      have R0 := Aside0.mk (Q_R0 (hoff 10 (by kernel_rfl)))
      have HB := Aside0.mk Q_HB
      refine value_ (w1 := w') (v := .pointer (some ⟨gr, 0, none⟩)) (by rfl) rfl ?_ ?_
      ·go_simp
       (try simp only [i64_w])
       try rfl
      refine hK.out _ _ ⟨(by rw [ha.out]; exact putSel_upk 1 hb_ rfl rfl rfl), Q_HT, Q_HR, Q_R0, fun h0_ => absurd ((hoff 10 (by kernel_rfl)).symm.trans h0_) (by decide), Q_HB⟩
     refine steps_cons ?_ ?_
     ·rintro b a w' ⟨ha, Q_HT, Q_HR, Q_R0, Q_R1, Q_HB⟩ hb_ hon hoff
      refine ⟨_, rfl, fun K hK => ?_⟩
      have e47 : a.tmps[47]? = some (.pointer (some ⟨gr, 0, none⟩)) := by rw [ha]; exact putSel_on (e := (1, 47, .pointer (some ⟨gr, 0, none⟩))) 1 rfl rfl (hon 1 (by kernel_rfl)) rfl
      replace ha := Aside0.mk ha
      have HT := Aside0.mk Q_HT
      have HR := Aside0.mk Q_HR
      have R0 := Aside0.mk (Q_R0 (hoff 10 (by kernel_rfl)))
      have HB := Aside0.mk Q_HB
      refine goes_ Try.func63 (by kernel_rfl) rfl #[.pointer (some ⟨gr, 0, none⟩)] (by rfl) rfl rfl (by first | (simp only [List.map_toArray, List.map_cons, List.map_nil, Act.eval, Array.getD_eq_getD_getElem?, Option.getD_some, e47]; done) | (simp only [List.map_toArray, List.map_cons, List.map_nil, Act.eval, Array.getD_eq_getD_getElem?, Option.getD_some, e47]; rfl)) ?_
      refine (rd_err HR.out).mono ?_
      rintro e_ wn_ ⟨rfl, rfl⟩
      refine ⟨_, rfl, ?_⟩
      refine hK.out _ _ ⟨(by rw [ha.out]; exact putSel_upk 2 hb_ rfl rfl rfl), HT.out, HR.out, fun _ => R0.out, fun h0_ => absurd ((hoff 10 (by kernel_rfl)).symm.trans h0_) (by decide), HB.out⟩
     refine steps_cons ?_ ?_
     ·rintro b a w' ⟨ha, Q_HT, Q_HR, Q_R0, Q_R1, Q_HB⟩ hb_ hon hoff
      refine ⟨_, rfl, fun K hK => ?_⟩
      have e48 : a.tmps[48]? = some (.int .i64 q4.2.e) := by rw [ha]; exact putSel_on (e := (2, 48, .int .i64 q4.2.e)) 2 rfl rfl (hon 2 (by kernel_rfl)) rfl
      replace ha := Aside0.mk ha
      have HT := Aside0.mk Q_HT
      have HR := Aside0.mk Q_HR
      have R0 := Aside0.mk (Q_R0 (hoff 10 (by kernel_rfl)))
      have HB := Aside0.mk Q_HB
      have hq_ := hq4.out
      refine value_ (w1 := w') (v := .bool false) (by rfl) rfl ?_ ?_
      ·go_simp
       (try simp only [i64_w])
       try rfl
      refine hK.out _ _ ⟨(by rw [ha.out]; exact putSel_upk 3 hb_ rfl rfl rfl), Q_HT, Q_HR, Q_R0, fun h0_ => absurd ((hoff 10 (by kernel_rfl)).symm.trans h0_) (by decide), Q_HB⟩
     refine steps_cons ?_ ?_
     ·rintro b a w' ⟨ha, Q_HT, Q_HR, Q_R0, Q_R1, Q_HB⟩ hb_ hon hoff
      refine ⟨_, rfl, fun K hK => ?_⟩
      have e49 : a.tmps[49]? = some (.bool false) := by rw [ha]; exact putSel_on (e := (3, 49, .bool false)) 3 rfl rfl (hon 3 (by kernel_rfl)) rfl
      replace ha := Aside0.mk ha
      have HT := Aside0.mk Q_HT
      have HR := Aside0.mk Q_HR
      have R0 := Aside0.mk (Q_R0 (hoff 10 (by kernel_rfl)))
      have HB := Aside0.mk Q_HB
      refine value_ (w1 := w') (v := .bool false) (by rfl) rfl ?_ ?_
      ·go_simp
       (try simp only [i64_w])
       try rfl
      refine hK.out _ _ ⟨(by rw [ha.out]; exact putSel_upk 4 hb_ rfl rfl rfl), Q_HT, Q_HR, Q_R0, fun h0_ => absurd ((hoff 10 (by kernel_rfl)).symm.trans h0_) (by decide), Q_HB⟩
     refine steps_cons ?_ ?_
     ·rintro b a w' ⟨ha, Q_HT, Q_HR, Q_R0, Q_R1, Q_HB⟩ hb_ hon hoff
      refine ⟨_, rfl, fun K hK => ?_⟩
      have e50 : a.tmps[50]? = some (.bool false) := by rw [ha]; exact putSel_on (e := (4, 50, .bool false)) 4 rfl rfl (hon 4 (by kernel_rfl)) rfl
      replace ha := Aside0.mk ha
      have HT := Aside0.mk Q_HT
      have HR := Aside0.mk Q_HR
      have HB := Aside0.mk Q_HB
      refine off_ (wanted_off rfl rfl rfl (e50.trans (by first | rfl | (simp [*]; done)))) ?_
      refine hK.out _ _ ⟨(by rw [ha.out]; exact putSel_upk 5 hb_ rfl rfl rfl), Q_HT, Q_HR, Q_R0, Q_R1, Q_HB⟩
     refine steps_cons ?_ ?_
     ·rintro b a w' ⟨ha, Q_HT, Q_HR, Q_R0, Q_R1, Q_HB⟩ hb_ hon hoff
      refine ⟨_, rfl, fun K hK => ?_⟩
      have e50 : a.tmps[50]? = some (.bool false) := by rw [ha]; exact putSel_on (e := (4, 50, .bool false)) 4 rfl rfl (hon 4 (by kernel_rfl)) rfl
      replace ha := Aside0.mk ha
      have HT := Aside0.mk Q_HT
      have HR := Aside0.mk Q_HR
      have HB := Aside0.mk Q_HB
      refine off_ (wanted_off rfl rfl rfl (e50.trans (by first | rfl | (simp [*]; done)))) ?_
      refine hK.out _ _ ⟨(by rw [ha.out]; exact putSel_upk 6 hb_ rfl rfl rfl), Q_HT, Q_HR, Q_R0, Q_R1, Q_HB⟩
     refine steps_cons ?_ ?_
     ·rintro b a w' ⟨ha, Q_HT, Q_HR, Q_R0, Q_R1, Q_HB⟩ hb_ hon hoff
      refine ⟨_, rfl, fun K hK => ?_⟩
      have e50 : a.tmps[50]? = some (.bool false) := by rw [ha]; exact putSel_on (e := (4, 50, .bool false)) 4 rfl rfl (hon 4 (by kernel_rfl)) rfl
      replace ha := Aside0.mk ha
      have HT := Aside0.mk Q_HT
      have HR := Aside0.mk Q_HR
      have HB := Aside0.mk Q_HB
      have hw_ := hnw.out
      refine off_ (wanted_off rfl rfl rfl (e50.trans (by first | rfl | (simp [*]; done)))) ?_
      refine hK.out _ _ ⟨(by rw [ha.out]; exact putSel_upk 7 hb_ rfl rfl rfl), Q_HT, Q_HR, Q_R0, Q_R1, Q_HB⟩
     refine steps_cons ?_ ?_
     ·rintro b a w' ⟨ha, Q_HT, Q_HR, Q_R0, Q_R1, Q_HB⟩ hb_ hon hoff
      refine ⟨_, rfl, fun K hK => ?_⟩
      have e50 : a.tmps[50]? = some (.bool false) := by rw [ha]; exact putSel_on (e := (4, 50, .bool false)) 4 rfl rfl (hon 4 (by kernel_rfl)) rfl
      replace ha := Aside0.mk ha
      have HT := Aside0.mk Q_HT
      have HR := Aside0.mk Q_HR
      have HB := Aside0.mk Q_HB
      refine off_ (wanted_off rfl rfl rfl (e50.trans (by first | rfl | (simp [*]; done)))) ?_
      refine hK.out _ _ ⟨(by rw [ha.out]; exact putSel_upk 8 hb_ rfl rfl rfl), Q_HT, Q_HR, Q_R0, Q_R1, Q_HB⟩
     refine steps_cons ?_ ?_
     ·rintro b a w' ⟨ha, Q_HT, Q_HR, Q_R0, Q_R1, Q_HB⟩ hb_ hon hoff
      refine ⟨_, rfl, fun K hK => ?_⟩
      have e50 : a.tmps[50]? = some (.bool false) := by rw [ha]; exact putSel_on (e := (4, 50, .bool false)) 4 rfl rfl (hon 4 (by kernel_rfl)) rfl
      have e54 : a.tmps[54]? = some (undef) := by rw [ha]; exact putSel_on (e := (8, 54, undef)) 8 rfl rfl (hon 8 (by kernel_rfl)) rfl
      replace ha := Aside0.mk ha
      have HT := Aside0.mk Q_HT
      have HR := Aside0.mk Q_HR
      have HB := Aside0.mk Q_HB
      refine value_ (w1 := w') (v := .bool false) (by rfl) rfl ?_ ?_
      ·go_simp
       (try simp only [i64_w])
       try rfl
      refine hK.out _ _ ⟨(by rw [ha.out]; exact putSel_upk 9 hb_ rfl rfl rfl), Q_HT, Q_HR, Q_R0, Q_R1, Q_HB⟩
     refine steps_cons ?_ ?_
     ·rintro b a w' ⟨ha, Q_HT, Q_HR, Q_R0, Q_R1, Q_HB⟩ hb_ hon hoff
      refine ⟨_, rfl, fun K hK => ?_⟩
      have e4 : a.tmps[4]? = some (.pointer (some ⟨k4, 0, none⟩)) := by rw [ha]; exact (putSel_off rfl).trans rfl
      have e46 : a.tmps[46]? = some (.agg #[.int .u64 q2.1, .bool bl, .string st]) := by rw [ha]; exact putSel_on (e := (0, 46, .agg #[.int .u64 q2.1, .bool bl, .string st])) 0 rfl rfl (hon 0 (by kernel_rfl)) rfl
      replace ha := Aside0.mk ha
      have HT := Aside0.mk Q_HT
      have HR := Aside0.mk Q_HR
      have R0 := Aside0.mk (Q_R0 hb_)
      have HB := Aside0.mk Q_HB
      have hz0_ : w'.cell? ⟨k4, 0, none⟩ = some (.int .u64 0) := (blk_cell R0.out 0).trans rfl
      have hz1_ : w'.cell? ⟨k4, 1, none⟩ = some (.bool false) := (blk_cell R0.out 1).trans rfl
      have hz2_ : w'.cell? ⟨k4, 2, none⟩ = some (.string ⟨#[]⟩) := (blk_cell R0.out 2).trans rfl
      have hf0_ : w'.frozen? ⟨k4, 0, none⟩ = false := blk_frozen R0.out 0
      have hf1_ : w'.frozen? ⟨k4, 1, none⟩ = false := blk_frozen R0.out 1
      have hf2_ : w'.frozen? ⟨k4, 2, none⟩ = false := blk_frozen R0.out 2
      refine skip_ (w1 := ((w'.setCell ⟨k4, 0, none⟩ (.int .u64 q2.1)).setCell ⟨k4, 1, none⟩ (.bool bl)).setCell ⟨k4, 2, none⟩ (.string st)) (by rfl) rfl ?_ ?_
      ·go_simp
       try rfl
      refine hK.out _ _ ⟨(by rw [ha.out]; exact putSel_none (v := undef) rfl), (blk_far (blk_far (blk_far HT.out (p := ⟨k4, 0, none⟩) hne11.out _) (p := ⟨k4, 1, none⟩) hne11.out _) (p := ⟨k4, 2, none⟩) hne11.out _), (((HR.out.far (p := ⟨k4, 0, none⟩) hneR.out _).far (p := ⟨k4, 1, none⟩) hneR.out _).far (p := ⟨k4, 2, none⟩) hneR.out _), fun h0_ => absurd ((up_self b 10).symm.trans h0_) (by decide), fun _ => (blk_put (blk_put (blk_put R0.out 0 _ rfl) 1 _ rfl) 2 _ rfl), (below_set (below_set (below_set HB.out HK4.out) HK4.out) HK4.out)⟩
     refine steps_cons ?_ ?_
     ·rintro b a w' ⟨ha, Q_HT, Q_HR, Q_R0, Q_R1, Q_HB⟩ hb_ hon hoff
      refine ⟨_, rfl, fun K hK => ?_⟩
      have e55 : a.tmps[55]? = some (.bool false) := by rw [ha]; exact putSel_on (e := (9, 55, .bool false)) 9 rfl rfl (hon 9 (by kernel_rfl)) rfl
      replace ha := Aside0.mk ha
      have HT := Aside0.mk Q_HT
      have HR := Aside0.mk Q_HR
      have R1 := Aside0.mk (Q_R1 (hon 10 (by kernel_rfl)))
      have HB := Aside0.mk Q_HB
      refine value_ (w1 := w') (v := .bool false) (by rfl) rfl ?_ ?_
      ·go_simp
       (try simp only [i64_w])
       try rfl
      refine hK.out _ _ ⟨(by rw [ha.out]; exact putSel_upk 10 hb_ rfl rfl rfl), Q_HT, Q_HR, fun h0_ => absurd ((hon 10 (by kernel_rfl)).symm.trans h0_) (by decide), Q_R1, Q_HB⟩
     refine steps_cons ?_ ?_
     ·rintro b a w' ⟨ha, Q_HT, Q_HR, Q_R0, Q_R1, Q_HB⟩ hb_ hon hoff
      refine ⟨_, rfl, fun K hK => ?_⟩
      replace ha := Aside0.mk ha
      have HT := Aside0.mk Q_HT
      have HR := Aside0.mk Q_HR
      have R1 := Aside0.mk (Q_R1 (hon 10 (by kernel_rfl)))
      have HB := Aside0.mk Q_HB
      refine value_ (w1 := w') (v := .int .i64 0) (by rfl) rfl ?_ ?_
      ·go_simp
       (try simp only [i64_w])
       try rfl
      refine hK.out _ _ ⟨(by rw [ha.out]; exact putSel_upk 11 hb_ rfl rfl rfl), Q_HT, Q_HR, fun h0_ => absurd ((hon 10 (by kernel_rfl)).symm.trans h0_) (by decide), Q_R1, Q_HB⟩
     exact steps_nil
    rintro b a w' hall ⟨ha, Q_HT, Q_HR, Q_R0, Q_R1, Q_HB⟩
    clear HB HR HT R0
    have hb0_ := hall 0 (by kernel_rfl)
    have hb1_ := hall 1 (by kernel_rfl)
    have hb2_ := hall 2 (by kernel_rfl)
    have hb3_ := hall 3 (by kernel_rfl)
    have hb4_ := hall 4 (by kernel_rfl)
    have hb5_ := hall 5 (by kernel_rfl)
    have hb6_ := hall 6 (by kernel_rfl)
    have hb7_ := hall 7 (by kernel_rfl)
    have hb8_ := hall 8 (by kernel_rfl)
    have hb9_ := hall 9 (by kernel_rfl)
    have hb10_ := hall 10 (by kernel_rfl)
    have hb11_ := hall 11 (by kernel_rfl)
    have hb12_ := hall 12 (by kernel_rfl)
    subst ha
    simp only [putSel, hb0_, hb1_, hb2_, hb3_, hb4_, hb5_, hb6_, hb7_, hb8_, hb9_, hb10_, hb11_, hb12_, if_true, Act.put, List.setIfInBounds_toArray, List.set_cons_zero, List.set_cons_succ]
    have HT := Aside0.mk Q_HT
    clear Q_HT
    have HR := Aside0.mk Q_HR
    clear Q_HR Q_R0
    have R1 := Aside0.mk (Q_R1 hb10_)
    clear Q_R1
    have HB := Aside0.mk Q_HB
    clear Q_HB
    clear hall hb0_ hb1_ hb2_ hb3_ hb4_ hb5_ hb6_ hb7_ hb8_ hb9_ hb10_ hb11_ hb12_
    go_wp2
    (try simp only [Exit.inBlock, Exit.then])
    refine bodyPost_ret (results_cell2 rfl _ _ k4 98 _ _ _ rfl R1.out Try.underlying98 rfl (by kernel_rfl)) rfl ?_
    refine ⟨?_, HB.out⟩
    rw [show L.rd M n = prt s.b n by unfold LA.rd; rw [← HE.out, if_pos rfl, HS.out]]
    unfold prt
    rw [← HQ1.out, ← HQ2.out, ← HQ3.out, ← HQ4.out, hq4.out, ← hbl, ← hst, Bool.false_and]
    rfl
  ·have t9 : (E == 9) = false := by simpa using h9
   have t0 : (E != 0) = true := by simpa using hz
   go_wp2
   (try simp only [Exit.inBlock, Exit.then])
   refine bodyPost_ret (results_cell2 rfl _ _ k4 98 _ _ _ rfl (blk_put (blk_put (blk_put HB'.out 0 _ rfl) 1 _ rfl) 2 _ rfl) Try.underlying98 rfl (by kernel_rfl)) rfl ?_
   refine ⟨?_, below_set (below_set (below_set B1.out HK4.out) HK4.out) HK4.out⟩
   rw [show L.rd M n = ⟨0, false, ⟨#[]⟩, false, E⟩ by unfold LA.rd; rw [← HE.out, if_neg hz, if_neg h9]]
   rfl
end
end Go.Proofs.Ytihmfccpgahmaaa.Wal
