/- (*wal.Log).master and mark, walked. Conditions: the log's numbers within their bounds. -/
import Derived.Test.YtihmfccpgahmaaaWalMas
namespace Go.Proofs.Ytihmfccpgahmaaa.Wal
open Go Go.RowKit
open Go.Proofs.YtihmfccpgahmaaaW.PrintWords hiding Kept Kept.refl
open Go.Proofs.YtihmfccpgahmaaaW.PrintMore Go.Proofs.YtihmfccpgahmaaaW.PrintLast Go.Proofs.Ytihmfccpgahmaaa.Dk Go.Proofs.Ytihmfccpgahmaaa.Q Go.Proofs.Ytihmfccpgahmaaa.Str Go.Proofs.Ytihmfccpgahmaaa.Leb
set_option linter.unusedVariables false
set_option linter.unusedSimpArgs false
structure LA.Nm (L : LA) : Prop where
 f0 : 0 ≤ L.fr ∧ L.fr ≤ 65536
 seq : 0 ≤ L.seq ∧ L.seq < 18446744073709551616
 life : 0 ≤ L.life ∧ L.life < 18446744073709551616
 start : 0 ≤ L.start ∧ L.start < 18446744073709551616
 floor : 0 ≤ L.floor ∧ L.floor < 18446744073709551616
def dockB : List Int := [4, 100, 111, 99, 107]
/-- A master sector's bytes. -/
def LA.mb (L : LA) : List Int := (((dockB ++ leb L.seq.toNat) ++ leb L.life.toNat) ++ leb L.start.toNat) ++ leb L.floor.toNat
def LA.up (L : LA) : LA := { L with seq := L.seq + 1 }
theorem ten {n : Int} (h : 0 ≤ n ∧ n < 18446744073709551616) : (leb n.toNat).length ≤ 10 := leb_ten (by omega)
section
variable {w0 w wa W : World} {p g : Nat} {S : Nat → Prop} {L : LA} {M : DA}
theorem len_0 (h : L.Nm) : dockB.length ≤ 1000000 := by decide
theorem len_1 (h : L.Nm) : (dockB ++ leb L.seq.toNat).length ≤ 1000000 := by have := ten h.seq; rw [List.length_append]; have : dockB.length = 5 := rfl; omega
theorem len_2 (h : L.Nm) : ((dockB ++ leb L.seq.toNat) ++ leb L.life.toNat).length ≤ 1000000 := by have := ten h.seq; have := ten h.life; rw [List.length_append, List.length_append]; have : dockB.length = 5 := rfl; omega
theorem len_3 (h : L.Nm) : (((dockB ++ leb L.seq.toNat) ++ leb L.life.toNat) ++ leb L.start.toNat).length ≤ 1000000 := by have := ten h.seq; have := ten h.life; have := ten h.start; rw [List.length_append, List.length_append, List.length_append]; have : dockB.length = 5 := rfl; omega
theorem mb_len (h : L.Nm) : L.mb.length ≤ 45 := by have := ten h.seq; have := ten h.life; have := ten h.start; have := ten h.floor; unfold LA.mb; rw [List.length_append, List.length_append, List.length_append, List.length_append]; have : dockB.length = 5 := rfl; omega
theorem mb_byt (L : LA) : Byt L.mb := by
 unfold LA.mb
 exact Byt.append (Byt.append (Byt.append (Byt.append (by unfold dockB; intro x hx; simp at hx; omega) (leb_byte _)) (leb_byte _)) (leb_byte _)) (leb_byte _)
theorem rb_kept {A : Option Addr} {c : Nat} {l : List Int} (h : Rb wa w (.slice A l.length c) l) (hk : Kept w W S) (hS : ∀ k, S k → k < wa.heap.size) : Kd.C (Kd.int .u8) W A l.length l :=
 (own_C (own_kept (s := ⟨A, c, l⟩) h hk hS)).2
def wlms2.T2 : Bool × List (List Nat × List Nat) := (true, [([], []), ([], []), ([1], [1]), ([2], [2]), ([3], [3]), ([0, 4], [0, 4]), ([], []), ([6], [6]), ([7], [7]), ([8], [8]), ([5, 9, 5], [5, 9]), ([], []), ([11], [11]), ([12], [12]), ([13], [13]), ([10, 14, 10], [10, 14]), ([], []), ([16], [16]), ([17], [17]), ([18], [18]), ([15, 19, 15], [15, 19]), ([20, 20, 0, 1, 2, 3, 4, 5, 6, 7, 8, 9, 10, 11, 12, 13, 14, 15, 16, 17, 18, 19, 20], [20])])
def wlms2.B2 : List Nat := [0, 0, 2, 6, 14, 31, 0, 64, 192, 448, 1023, 0, 2048, 6144, 14336, 32767, 0, 65536, 196608, 458752, 1048575, 2097151]
theorem wlms2.tab2 : rtab .any (opsOf Try.f64 2) = wlms2.T2 := by kernel_rfl
theorem wlms2.bits2 : waitsOk wlms2.T2.2 wlms2.B2 = true := by kernel_rfl
set_option maxRecDepth 100000 in
set_option maxHeartbeats 4000000 in
theorem master_b (h : Lg w0 w p g S L M) (hN : L.Nm) : Calls Try.prog 64 #[.pointer (some ⟨p, 0, none⟩)] w fun e w' => ∃ A c, e = .returned (.slice A L.mb.length c) ∧ L.mb.length ≤ c ∧ Rb w w' (.slice A L.mb.length c) L.mb ∧ Below w.heap.size w w' := by
 have HL := Aside0.mk h
 have HN := Aside0.mk hN
 clear h hN
 obtain ⟨wa, hwa⟩ : ∃ x, x = w := ⟨_, rfl⟩
 subst hwa
 go_enter Try.func64, Try.ntmps64
 go_wp2_with fail
 refine (text_b (w0 := wa) (Below.refl _ _) (Rb.nil _ _) _ (by decide) (by decide)).mono ?_
 rintro e w1 ⟨v3, rfl, hr, hb⟩
 have F0 := Aside0.mk (show Rb wa w1 v3 dockB from by
  have e1 : ([] : List Int) ++ (leb (⟨#[100, 111, 99, 107]⟩ : ByteArray).size ++ bytesOf ⟨#[100, 111, 99, 107]⟩) = dockB := by
   rw [show (⟨#[100, 111, 99, 107]⟩ : ByteArray).size = 4 from rfl, leb_lt (by decide)]; rfl
  rw [e1] at hr; exact hr)
 have HB := Aside0.mk hb
 clear hr hb
 go_upto_region 2 with fail
 refine start_ (n := 22) (S := fun w' => True) (ds := []) #[false, false, false, false, false, false, false, false, false, false, false, false, false, false, false, false, false, false, false, false, false, false] (by kernel_rfl) rfl rfl trivial (fun hHeld => ?_)
 refine with_tabW wlms2.tab2 wlms2.bits2 (fun HT_ HW_ => ?_)
 have n0_ := Aside0.mk (below_drew HB.out)
 have n1_ := Aside0.mk (Kd.R_drew F0.out)
 clear HB F0
 generalize World.drew _ = wd at n0_ n1_ hHeld ⊢
 have HB := n0_
 have F0 := n1_
 clear hHeld n0_ n1_
 refine inv_at [0, 1, 2, 3, 4, 5, 6, 7, 8, 9, 10, 11, 12, 13, 14, 15, 16, 17, 18, 19, 20, 21] (fun a0_ b a w' => ∃ (V1 : Value) (V2 : Value) (V3 : Value) (V4 : Value) (m21_ : Value), a = putSel a0_ b [(0, 5, v3), (1, 6, .pointer (some ⟨p, 0, none⟩)), (2, 7, .pointer (some ⟨p, 0, none⟩)), (3, 8, .pointer (some ⟨p, 3, none⟩)), (4, 9, .int .u64 L.seq), (5, 10, V1), (6, 11, .pointer (some ⟨p, 0, none⟩)), (7, 12, .pointer (some ⟨p, 0, none⟩)), (8, 13, .pointer (some ⟨p, 4, none⟩)), (9, 14, .int .u64 L.life), (10, 15, V2), (11, 16, .pointer (some ⟨p, 0, none⟩)), (12, 17, .pointer (some ⟨p, 0, none⟩)), (13, 18, .pointer (some ⟨p, 5, none⟩)), (14, 19, .int .u64 L.start), (15, 20, V3), (16, 21, .pointer (some ⟨p, 0, none⟩)), (17, 22, .pointer (some ⟨p, 0, none⟩)), (18, 23, .pointer (some ⟨p, 6, none⟩)), (19, 24, .int .u64 L.floor), (20, 25, V4), (21, 2, m21_)] ∧ (Below wa.heap.size wa w') ∧ (b 5 = false → Rb wa w' v3 dockB) ∧ (b 5 = true → b 10 = false → Rb wa w' V1 (dockB ++ leb L.seq.toNat)) ∧ (b 10 = true → b 15 = false → Rb wa w' V2 ((dockB ++ leb L.seq.toNat) ++ leb L.life.toNat)) ∧ (b 15 = true → b 20 = false → Rb wa w' V3 (((dockB ++ leb L.seq.toNat) ++ leb L.life.toNat) ++ leb L.start.toNat)) ∧ (b 20 = true → Rb wa w' V4 ((((dockB ++ leb L.seq.toNat) ++ leb L.life.toNat) ++ leb L.start.toNat) ++ leb L.floor.toNat)) ∧ (b 21 = true → (m21_ : Value) = V4)) HT_.out HW_.out (by kernel_rfl) (by kernel_rfl) ?_ ?_ ?_
 ·exact ⟨(.slice none 0 0), (.slice none 0 0), (.slice none 0 0), (.slice none 0 0), .bool false, by simp only [putSel, Bool.false_eq_true, if_false], HB.out, fun _ => F0.out, fun h_ => absurd h_ (by decide), fun h_ => absurd h_ (by decide), fun h_ => absurd h_ (by decide), fun h_ => absurd h_ (by decide), fun h_ => absurd h_ (by decide)⟩
 ·skip
  clear F0 HB
  refine steps_cons ?_ ?_
  ·rintro b a w' ⟨V1, V2, V3, V4, m21_, ha, Q_HB, Q_F0, Q_F1, Q_F2, Q_F3, Q_F4, Q_X21_⟩ hb_ hon hoff
   refine ⟨_, rfl, fun K hK => ?_⟩
   have e3 : a.tmps[3]? = some (v3) := by rw [ha]; exact (putSel_off rfl).trans rfl
   replace ha := Aside0.mk ha
   have HB := Aside0.mk Q_HB
   have F0 := Aside0.mk (Q_F0 (hoff 5 (by kernel_rfl)))
   refine value_ (w1 := w') (v := v3) (by rfl) rfl ?_ ?_
   ·go_simp
    (try simp only [i64_w])
    try rfl
   refine hK.out _ _ ⟨V1, V2, V3, V4, m21_, (by rw [ha.out]; exact putSel_upk 0 hb_ rfl rfl rfl), Q_HB, Q_F0, fun h0_ _ => absurd ((hoff 5 (by kernel_rfl)).symm.trans h0_) (by decide), fun h0_ _ => absurd ((hoff 10 (by kernel_rfl)).symm.trans h0_) (by decide), fun h0_ _ => absurd ((hoff 15 (by kernel_rfl)).symm.trans h0_) (by decide), fun h0_ => absurd ((hoff 20 (by kernel_rfl)).symm.trans h0_) (by decide), fun h0_ => absurd ((hoff 21 (by kernel_rfl)).symm.trans h0_) (by decide)⟩
  refine steps_cons ?_ ?_
  ·rintro b a w' ⟨V1, V2, V3, V4, m21_, ha, Q_HB, Q_F0, Q_F1, Q_F2, Q_F3, Q_F4, Q_X21_⟩ hb_ hon hoff
   refine ⟨_, rfl, fun K hK => ?_⟩
   have e0 : a.tmps[0]? = some (.pointer (some ⟨p, 0, none⟩)) := by rw [ha]; exact (putSel_off rfl).trans rfl
   replace ha := Aside0.mk ha
   have HB := Aside0.mk Q_HB
   have F0 := Aside0.mk (Q_F0 (hoff 5 (by kernel_rfl)))
   refine value_ (w1 := w') (v := .pointer (some ⟨p, 0, none⟩)) (by rfl) rfl ?_ ?_
   ·go_simp
    (try simp only [i64_w])
    try rfl
   refine hK.out _ _ ⟨V1, V2, V3, V4, m21_, (by rw [ha.out]; exact putSel_upk 1 hb_ rfl rfl rfl), Q_HB, Q_F0, fun h0_ _ => absurd ((hoff 5 (by kernel_rfl)).symm.trans h0_) (by decide), fun h0_ _ => absurd ((hoff 10 (by kernel_rfl)).symm.trans h0_) (by decide), fun h0_ _ => absurd ((hoff 15 (by kernel_rfl)).symm.trans h0_) (by decide), fun h0_ => absurd ((hoff 20 (by kernel_rfl)).symm.trans h0_) (by decide), fun h0_ => absurd ((hoff 21 (by kernel_rfl)).symm.trans h0_) (by decide)⟩
  refine steps_cons ?_ ?_
  ·rintro b a w' ⟨V1, V2, V3, V4, m21_, ha, Q_HB, Q_F0, Q_F1, Q_F2, Q_F3, Q_F4, Q_X21_⟩ hb_ hon hoff
   refine ⟨_, rfl, fun K hK => ?_⟩
   have e6 : a.tmps[6]? = some (.pointer (some ⟨p, 0, none⟩)) := by rw [ha]; exact putSel_on (e := (1, 6, .pointer (some ⟨p, 0, none⟩))) 1 rfl rfl (hon 1 (by kernel_rfl)) rfl
   replace ha := Aside0.mk ha
   have HB := Aside0.mk Q_HB
   have F0 := Aside0.mk (Q_F0 (hoff 5 (by kernel_rfl)))
   refine value_ (w1 := w') (v := .pointer (some ⟨p, 0, none⟩)) (by rfl) rfl ?_ ?_
   ·go_simp
    (try simp only [i64_w])
    try rfl
   refine hK.out _ _ ⟨V1, V2, V3, V4, m21_, (by rw [ha.out]; exact putSel_upk 2 hb_ rfl rfl rfl), Q_HB, Q_F0, fun h0_ _ => absurd ((hoff 5 (by kernel_rfl)).symm.trans h0_) (by decide), fun h0_ _ => absurd ((hoff 10 (by kernel_rfl)).symm.trans h0_) (by decide), fun h0_ _ => absurd ((hoff 15 (by kernel_rfl)).symm.trans h0_) (by decide), fun h0_ => absurd ((hoff 20 (by kernel_rfl)).symm.trans h0_) (by decide), fun h0_ => absurd ((hoff 21 (by kernel_rfl)).symm.trans h0_) (by decide)⟩
  refine steps_cons ?_ ?_
  ·rintro b a w' ⟨V1, V2, V3, V4, m21_, ha, Q_HB, Q_F0, Q_F1, Q_F2, Q_F3, Q_F4, Q_X21_⟩ hb_ hon hoff
   refine ⟨_, rfl, fun K hK => ?_⟩
   have e7 : a.tmps[7]? = some (.pointer (some ⟨p, 0, none⟩)) := by rw [ha]; exact putSel_on (e := (2, 7, .pointer (some ⟨p, 0, none⟩))) 2 rfl rfl (hon 2 (by kernel_rfl)) rfl
   replace ha := Aside0.mk ha
   have HB := Aside0.mk Q_HB
   have F0 := Aside0.mk (Q_F0 (hoff 5 (by kernel_rfl)))
   refine value_ (w1 := w') (v := .pointer (some ⟨p, 3, none⟩)) (by rfl) rfl ?_ ?_
   ·go_simp
    (try simp only [i64_w])
    try rfl
   refine hK.out _ _ ⟨V1, V2, V3, V4, m21_, (by rw [ha.out]; exact putSel_upk 3 hb_ rfl rfl rfl), Q_HB, Q_F0, fun h0_ _ => absurd ((hoff 5 (by kernel_rfl)).symm.trans h0_) (by decide), fun h0_ _ => absurd ((hoff 10 (by kernel_rfl)).symm.trans h0_) (by decide), fun h0_ _ => absurd ((hoff 15 (by kernel_rfl)).symm.trans h0_) (by decide), fun h0_ => absurd ((hoff 20 (by kernel_rfl)).symm.trans h0_) (by decide), fun h0_ => absurd ((hoff 21 (by kernel_rfl)).symm.trans h0_) (by decide)⟩
  refine steps_cons ?_ ?_
  ·rintro b a w' ⟨V1, V2, V3, V4, m21_, ha, Q_HB, Q_F0, Q_F1, Q_F2, Q_F3, Q_F4, Q_X21_⟩ hb_ hon hoff
   refine ⟨_, rfl, fun K hK => ?_⟩
   have e8 : a.tmps[8]? = some (.pointer (some ⟨p, 3, none⟩)) := by rw [ha]; exact putSel_on (e := (3, 8, .pointer (some ⟨p, 3, none⟩))) 3 rfl rfl (hon 3 (by kernel_rfl)) rfl
   replace ha := Aside0.mk ha
   have HB := Aside0.mk Q_HB
   have F0 := Aside0.mk (Q_F0 (hoff 5 (by kernel_rfl)))
   have hc3_ : w'.cell? ⟨p, 3, none⟩ = some (.int .u64 L.seq) := (HL.out.below HB.out).cell 3 _ rfl
   refine value_ (w1 := w') (v := .int .u64 L.seq) (by rfl) rfl ?_ ?_
   ·go_simp
    (try simp only [i64_w])
    try rfl
   refine hK.out _ _ ⟨V1, V2, V3, V4, m21_, (by rw [ha.out]; exact putSel_upk 4 hb_ rfl rfl rfl), Q_HB, Q_F0, fun h0_ _ => absurd ((hoff 5 (by kernel_rfl)).symm.trans h0_) (by decide), fun h0_ _ => absurd ((hoff 10 (by kernel_rfl)).symm.trans h0_) (by decide), fun h0_ _ => absurd ((hoff 15 (by kernel_rfl)).symm.trans h0_) (by decide), fun h0_ => absurd ((hoff 20 (by kernel_rfl)).symm.trans h0_) (by decide), fun h0_ => absurd ((hoff 21 (by kernel_rfl)).symm.trans h0_) (by decide)⟩
  refine steps_cons ?_ ?_
  ·rintro b a w' ⟨V1, V2, V3, V4, m21_, ha, Q_HB, Q_F0, Q_F1, Q_F2, Q_F3, Q_F4, Q_X21_⟩ hb_ hon hoff
   refine ⟨_, rfl, fun K hK => ?_⟩
   have e5 : a.tmps[5]? = some (v3) := by rw [ha]; exact putSel_on (e := (0, 5, v3)) 0 rfl rfl (hon 0 (by kernel_rfl)) rfl
   have e9 : a.tmps[9]? = some (.int .u64 L.seq) := by rw [ha]; exact putSel_on (e := (4, 9, .int .u64 L.seq)) 4 rfl rfl (hon 4 (by kernel_rfl)) rfl
   replace ha := Aside0.mk ha
   have HB := Aside0.mk Q_HB
   have F0 := Aside0.mk (Q_F0 hb_)
   refine goes_ Try.func37 (by kernel_rfl) rfl #[v3, .int .u64 L.seq] (by rfl) rfl rfl (by first | (simp only [List.map_toArray, List.map_cons, List.map_nil, Act.eval, Array.getD_eq_getD_getElem?, Option.getD_some, e5, e9]; done) | (simp only [List.map_toArray, List.map_cons, List.map_nil, Act.eval, Array.getD_eq_getD_getElem?, Option.getD_some, e5, e9]; rfl)) ?_
   refine (put_b HB.out F0.out L.seq HN.out.seq.1 HN.out.seq.2 (len_0 HN.out)).mono ?_
   rintro e_ wn_ ⟨vn_, rfl, hr_, hbw_⟩
   refine ⟨_, rfl, ?_⟩
   refine hK.out _ _ ⟨vn_, V2, V3, V4, m21_, (by rw [ha.out]; exact putSel_upk 5 hb_ rfl rfl rfl), hbw_, fun h0_ => absurd ((up_self b 5).symm.trans h0_) (by decide), fun _ _ => hr_, fun h0_ _ => absurd ((hoff 10 (by kernel_rfl)).symm.trans h0_) (by decide), fun h0_ _ => absurd ((hoff 15 (by kernel_rfl)).symm.trans h0_) (by decide), fun h0_ => absurd ((hoff 20 (by kernel_rfl)).symm.trans h0_) (by decide), fun h0_ => absurd ((hoff 21 (by kernel_rfl)).symm.trans h0_) (by decide)⟩
  refine steps_cons ?_ ?_
  ·rintro b a w' ⟨V1, V2, V3, V4, m21_, ha, Q_HB, Q_F0, Q_F1, Q_F2, Q_F3, Q_F4, Q_X21_⟩ hb_ hon hoff
   refine ⟨_, rfl, fun K hK => ?_⟩
   have e0 : a.tmps[0]? = some (.pointer (some ⟨p, 0, none⟩)) := by rw [ha]; exact (putSel_off rfl).trans rfl
   replace ha := Aside0.mk ha
   have HB := Aside0.mk Q_HB
   refine value_ (w1 := w') (v := .pointer (some ⟨p, 0, none⟩)) (by rfl) rfl ?_ ?_
   ·go_simp
    (try simp only [i64_w])
    try rfl
   refine hK.out _ _ ⟨V1, V2, V3, V4, m21_, (by rw [ha.out]; exact putSel_upk 6 hb_ rfl rfl rfl), Q_HB, Q_F0, Q_F1, fun h0_ _ => absurd ((hoff 10 (by kernel_rfl)).symm.trans h0_) (by decide), fun h0_ _ => absurd ((hoff 15 (by kernel_rfl)).symm.trans h0_) (by decide), fun h0_ => absurd ((hoff 20 (by kernel_rfl)).symm.trans h0_) (by decide), fun h0_ => absurd ((hoff 21 (by kernel_rfl)).symm.trans h0_) (by decide)⟩
  refine steps_cons ?_ ?_
  ·rintro b a w' ⟨V1, V2, V3, V4, m21_, ha, Q_HB, Q_F0, Q_F1, Q_F2, Q_F3, Q_F4, Q_X21_⟩ hb_ hon hoff
   refine ⟨_, rfl, fun K hK => ?_⟩
   have e11 : a.tmps[11]? = some (.pointer (some ⟨p, 0, none⟩)) := by rw [ha]; exact putSel_on (e := (6, 11, .pointer (some ⟨p, 0, none⟩))) 6 rfl rfl (hon 6 (by kernel_rfl)) rfl
   replace ha := Aside0.mk ha
   have HB := Aside0.mk Q_HB
   refine value_ (w1 := w') (v := .pointer (some ⟨p, 0, none⟩)) (by rfl) rfl ?_ ?_
   ·go_simp
    (try simp only [i64_w])
    try rfl
   refine hK.out _ _ ⟨V1, V2, V3, V4, m21_, (by rw [ha.out]; exact putSel_upk 7 hb_ rfl rfl rfl), Q_HB, Q_F0, Q_F1, fun h0_ _ => absurd ((hoff 10 (by kernel_rfl)).symm.trans h0_) (by decide), fun h0_ _ => absurd ((hoff 15 (by kernel_rfl)).symm.trans h0_) (by decide), fun h0_ => absurd ((hoff 20 (by kernel_rfl)).symm.trans h0_) (by decide), fun h0_ => absurd ((hoff 21 (by kernel_rfl)).symm.trans h0_) (by decide)⟩
  refine steps_cons ?_ ?_
  ·rintro b a w' ⟨V1, V2, V3, V4, m21_, ha, Q_HB, Q_F0, Q_F1, Q_F2, Q_F3, Q_F4, Q_X21_⟩ hb_ hon hoff
   refine ⟨_, rfl, fun K hK => ?_⟩
   have e12 : a.tmps[12]? = some (.pointer (some ⟨p, 0, none⟩)) := by rw [ha]; exact putSel_on (e := (7, 12, .pointer (some ⟨p, 0, none⟩))) 7 rfl rfl (hon 7 (by kernel_rfl)) rfl
   replace ha := Aside0.mk ha
   have HB := Aside0.mk Q_HB
   refine value_ (w1 := w') (v := .pointer (some ⟨p, 4, none⟩)) (by rfl) rfl ?_ ?_
   ·go_simp
    (try simp only [i64_w])
    try rfl
   refine hK.out _ _ ⟨V1, V2, V3, V4, m21_, (by rw [ha.out]; exact putSel_upk 8 hb_ rfl rfl rfl), Q_HB, Q_F0, Q_F1, fun h0_ _ => absurd ((hoff 10 (by kernel_rfl)).symm.trans h0_) (by decide), fun h0_ _ => absurd ((hoff 15 (by kernel_rfl)).symm.trans h0_) (by decide), fun h0_ => absurd ((hoff 20 (by kernel_rfl)).symm.trans h0_) (by decide), fun h0_ => absurd ((hoff 21 (by kernel_rfl)).symm.trans h0_) (by decide)⟩
  refine steps_cons ?_ ?_
  ·rintro b a w' ⟨V1, V2, V3, V4, m21_, ha, Q_HB, Q_F0, Q_F1, Q_F2, Q_F3, Q_F4, Q_X21_⟩ hb_ hon hoff
   refine ⟨_, rfl, fun K hK => ?_⟩
   have e13 : a.tmps[13]? = some (.pointer (some ⟨p, 4, none⟩)) := by rw [ha]; exact putSel_on (e := (8, 13, .pointer (some ⟨p, 4, none⟩))) 8 rfl rfl (hon 8 (by kernel_rfl)) rfl
   replace ha := Aside0.mk ha
   have HB := Aside0.mk Q_HB
   have hc4_ : w'.cell? ⟨p, 4, none⟩ = some (.int .u64 L.life) := (HL.out.below HB.out).cell 4 _ rfl
   refine value_ (w1 := w') (v := .int .u64 L.life) (by rfl) rfl ?_ ?_
   ·go_simp
    (try simp only [i64_w])
    try rfl
   refine hK.out _ _ ⟨V1, V2, V3, V4, m21_, (by rw [ha.out]; exact putSel_upk 9 hb_ rfl rfl rfl), Q_HB, Q_F0, Q_F1, fun h0_ _ => absurd ((hoff 10 (by kernel_rfl)).symm.trans h0_) (by decide), fun h0_ _ => absurd ((hoff 15 (by kernel_rfl)).symm.trans h0_) (by decide), fun h0_ => absurd ((hoff 20 (by kernel_rfl)).symm.trans h0_) (by decide), fun h0_ => absurd ((hoff 21 (by kernel_rfl)).symm.trans h0_) (by decide)⟩
  refine steps_cons ?_ ?_
  ·rintro b a w' ⟨V1, V2, V3, V4, m21_, ha, Q_HB, Q_F0, Q_F1, Q_F2, Q_F3, Q_F4, Q_X21_⟩ hb_ hon hoff
   refine ⟨_, rfl, fun K hK => ?_⟩
   have e10 : a.tmps[10]? = some (V1) := by rw [ha]; exact putSel_on (e := (5, 10, V1)) 5 rfl rfl (hon 5 (by kernel_rfl)) rfl
   have e14 : a.tmps[14]? = some (.int .u64 L.life) := by rw [ha]; exact putSel_on (e := (9, 14, .int .u64 L.life)) 9 rfl rfl (hon 9 (by kernel_rfl)) rfl
   replace ha := Aside0.mk ha
   have HB := Aside0.mk Q_HB
   have F1 := Aside0.mk (Q_F1 (hon 5 (by kernel_rfl)) hb_)
   refine goes_ Try.func37 (by kernel_rfl) rfl #[V1, .int .u64 L.life] (by rfl) rfl rfl (by first | (simp only [List.map_toArray, List.map_cons, List.map_nil, Act.eval, Array.getD_eq_getD_getElem?, Option.getD_some, e10, e14]; done) | (simp only [List.map_toArray, List.map_cons, List.map_nil, Act.eval, Array.getD_eq_getD_getElem?, Option.getD_some, e10, e14]; rfl)) ?_
   refine (put_b HB.out F1.out L.life HN.out.life.1 HN.out.life.2 (len_1 HN.out)).mono ?_
   rintro e_ wn_ ⟨vn_, rfl, hr_, hbw_⟩
   refine ⟨_, rfl, ?_⟩
   refine hK.out _ _ ⟨V1, vn_, V3, V4, m21_, (by rw [ha.out]; exact putSel_upk 10 hb_ rfl rfl rfl), hbw_, fun h0_ => absurd ((hon 5 (by kernel_rfl)).symm.trans h0_) (by decide), fun _ h1_ => absurd ((up_self b 10).symm.trans h1_) (by decide), fun _ _ => hr_, fun h0_ _ => absurd ((hoff 15 (by kernel_rfl)).symm.trans h0_) (by decide), fun h0_ => absurd ((hoff 20 (by kernel_rfl)).symm.trans h0_) (by decide), fun h0_ => absurd ((hoff 21 (by kernel_rfl)).symm.trans h0_) (by decide)⟩
  refine steps_cons ?_ ?_
  ·rintro b a w' ⟨V1, V2, V3, V4, m21_, ha, Q_HB, Q_F0, Q_F1, Q_F2, Q_F3, Q_F4, Q_X21_⟩ hb_ hon hoff
   refine ⟨_, rfl, fun K hK => ?_⟩
   have e0 : a.tmps[0]? = some (.pointer (some ⟨p, 0, none⟩)) := by rw [ha]; exact (putSel_off rfl).trans rfl
   replace ha := Aside0.mk ha
   have HB := Aside0.mk Q_HB
   refine value_ (w1 := w') (v := .pointer (some ⟨p, 0, none⟩)) (by rfl) rfl ?_ ?_
   ·go_simp
    (try simp only [i64_w])
    try rfl
   refine hK.out _ _ ⟨V1, V2, V3, V4, m21_, (by rw [ha.out]; exact putSel_upk 11 hb_ rfl rfl rfl), Q_HB, Q_F0, Q_F1, Q_F2, fun h0_ _ => absurd ((hoff 15 (by kernel_rfl)).symm.trans h0_) (by decide), fun h0_ => absurd ((hoff 20 (by kernel_rfl)).symm.trans h0_) (by decide), fun h0_ => absurd ((hoff 21 (by kernel_rfl)).symm.trans h0_) (by decide)⟩
  refine steps_cons ?_ ?_
  ·rintro b a w' ⟨V1, V2, V3, V4, m21_, ha, Q_HB, Q_F0, Q_F1, Q_F2, Q_F3, Q_F4, Q_X21_⟩ hb_ hon hoff
   refine ⟨_, rfl, fun K hK => ?_⟩
   have e16 : a.tmps[16]? = some (.pointer (some ⟨p, 0, none⟩)) := by rw [ha]; exact putSel_on (e := (11, 16, .pointer (some ⟨p, 0, none⟩))) 11 rfl rfl (hon 11 (by kernel_rfl)) rfl
   replace ha := Aside0.mk ha
   have HB := Aside0.mk Q_HB
   refine value_ (w1 := w') (v := .pointer (some ⟨p, 0, none⟩)) (by rfl) rfl ?_ ?_
   ·go_simp
    (try simp only [i64_w])
    try rfl
   refine hK.out _ _ ⟨V1, V2, V3, V4, m21_, (by rw [ha.out]; exact putSel_upk 12 hb_ rfl rfl rfl), Q_HB, Q_F0, Q_F1, Q_F2, fun h0_ _ => absurd ((hoff 15 (by kernel_rfl)).symm.trans h0_) (by decide), fun h0_ => absurd ((hoff 20 (by kernel_rfl)).symm.trans h0_) (by decide), fun h0_ => absurd ((hoff 21 (by kernel_rfl)).symm.trans h0_) (by decide)⟩
  refine steps_cons ?_ ?_
  ·rintro b a w' ⟨V1, V2, V3, V4, m21_, ha, Q_HB, Q_F0, Q_F1, Q_F2, Q_F3, Q_F4, Q_X21_⟩ hb_ hon hoff
   refine ⟨_, rfl, fun K hK => ?_⟩
   have e17 : a.tmps[17]? = some (.pointer (some ⟨p, 0, none⟩)) := by rw [ha]; exact putSel_on (e := (12, 17, .pointer (some ⟨p, 0, none⟩))) 12 rfl rfl (hon 12 (by kernel_rfl)) rfl
   replace ha := Aside0.mk ha
   have HB := Aside0.mk Q_HB
   refine value_ (w1 := w') (v := .pointer (some ⟨p, 5, none⟩)) (by rfl) rfl ?_ ?_
   ·go_simp
    (try simp only [i64_w])
    try rfl
   refine hK.out _ _ ⟨V1, V2, V3, V4, m21_, (by rw [ha.out]; exact putSel_upk 13 hb_ rfl rfl rfl), Q_HB, Q_F0, Q_F1, Q_F2, fun h0_ _ => absurd ((hoff 15 (by kernel_rfl)).symm.trans h0_) (by decide), fun h0_ => absurd ((hoff 20 (by kernel_rfl)).symm.trans h0_) (by decide), fun h0_ => absurd ((hoff 21 (by kernel_rfl)).symm.trans h0_) (by decide)⟩
  refine steps_cons ?_ ?_
  ·rintro b a w' ⟨V1, V2, V3, V4, m21_, ha, Q_HB, Q_F0, Q_F1, Q_F2, Q_F3, Q_F4, Q_X21_⟩ hb_ hon hoff
   refine ⟨_, rfl, fun K hK => ?_⟩
   have e18 : a.tmps[18]? = some (.pointer (some ⟨p, 5, none⟩)) := by rw [ha]; exact putSel_on (e := (13, 18, .pointer (some ⟨p, 5, none⟩))) 13 rfl rfl (hon 13 (by kernel_rfl)) rfl
   replace ha := Aside0.mk ha
   have HB := Aside0.mk Q_HB
   have hc5_ : w'.cell? ⟨p, 5, none⟩ = some (.int .u64 L.start) := (HL.out.below HB.out).cell 5 _ rfl
   refine value_ (w1 := w') (v := .int .u64 L.start) (by rfl) rfl ?_ ?_
   ·go_simp
    (try simp only [i64_w])
    try rfl
   refine hK.out _ _ ⟨V1, V2, V3, V4, m21_, (by rw [ha.out]; exact putSel_upk 14 hb_ rfl rfl rfl), Q_HB, Q_F0, Q_F1, Q_F2, fun h0_ _ => absurd ((hoff 15 (by kernel_rfl)).symm.trans h0_) (by decide), fun h0_ => absurd ((hoff 20 (by kernel_rfl)).symm.trans h0_) (by decide), fun h0_ => absurd ((hoff 21 (by kernel_rfl)).symm.trans h0_) (by decide)⟩
  refine steps_cons ?_ ?_
  ·rintro b a w' ⟨V1, V2, V3, V4, m21_, ha, Q_HB, Q_F0, Q_F1, Q_F2, Q_F3, Q_F4, Q_X21_⟩ hb_ hon hoff
   refine ⟨_, rfl, fun K hK => ?_⟩
   have e15 : a.tmps[15]? = some (V2) := by rw [ha]; exact putSel_on (e := (10, 15, V2)) 10 rfl rfl (hon 10 (by kernel_rfl)) rfl
   have e19 : a.tmps[19]? = some (.int .u64 L.start) := by rw [ha]; exact putSel_on (e := (14, 19, .int .u64 L.start)) 14 rfl rfl (hon 14 (by kernel_rfl)) rfl
   replace ha := Aside0.mk ha
   have HB := Aside0.mk Q_HB
   have F2 := Aside0.mk (Q_F2 (hon 10 (by kernel_rfl)) hb_)
   refine goes_ Try.func37 (by kernel_rfl) rfl #[V2, .int .u64 L.start] (by rfl) rfl rfl (by first | (simp only [List.map_toArray, List.map_cons, List.map_nil, Act.eval, Array.getD_eq_getD_getElem?, Option.getD_some, e15, e19]; done) | (simp only [List.map_toArray, List.map_cons, List.map_nil, Act.eval, Array.getD_eq_getD_getElem?, Option.getD_some, e15, e19]; rfl)) ?_
   refine (put_b HB.out F2.out L.start HN.out.start.1 HN.out.start.2 (len_2 HN.out)).mono ?_
   rintro e_ wn_ ⟨vn_, rfl, hr_, hbw_⟩
   refine ⟨_, rfl, ?_⟩
   refine hK.out _ _ ⟨V1, V2, vn_, V4, m21_, (by rw [ha.out]; exact putSel_upk 15 hb_ rfl rfl rfl), hbw_, fun h0_ => absurd ((hon 5 (by kernel_rfl)).symm.trans h0_) (by decide), fun _ h1_ => absurd ((hon 10 (by kernel_rfl)).symm.trans h1_) (by decide), fun _ h1_ => absurd ((up_self b 15).symm.trans h1_) (by decide), fun _ _ => hr_, fun h0_ => absurd ((hoff 20 (by kernel_rfl)).symm.trans h0_) (by decide), fun h0_ => absurd ((hoff 21 (by kernel_rfl)).symm.trans h0_) (by decide)⟩
  refine steps_cons ?_ ?_
  ·rintro b a w' ⟨V1, V2, V3, V4, m21_, ha, Q_HB, Q_F0, Q_F1, Q_F2, Q_F3, Q_F4, Q_X21_⟩ hb_ hon hoff
   refine ⟨_, rfl, fun K hK => ?_⟩
   have e0 : a.tmps[0]? = some (.pointer (some ⟨p, 0, none⟩)) := by rw [ha]; exact (putSel_off rfl).trans rfl
   replace ha := Aside0.mk ha
   have HB := Aside0.mk Q_HB
   refine value_ (w1 := w') (v := .pointer (some ⟨p, 0, none⟩)) (by rfl) rfl ?_ ?_
   ·go_simp
    (try simp only [i64_w])
    try rfl
   refine hK.out _ _ ⟨V1, V2, V3, V4, m21_, (by rw [ha.out]; exact putSel_upk 16 hb_ rfl rfl rfl), Q_HB, Q_F0, Q_F1, Q_F2, Q_F3, fun h0_ => absurd ((hoff 20 (by kernel_rfl)).symm.trans h0_) (by decide), fun h0_ => absurd ((hoff 21 (by kernel_rfl)).symm.trans h0_) (by decide)⟩
  refine steps_cons ?_ ?_
  ·rintro b a w' ⟨V1, V2, V3, V4, m21_, ha, Q_HB, Q_F0, Q_F1, Q_F2, Q_F3, Q_F4, Q_X21_⟩ hb_ hon hoff
   refine ⟨_, rfl, fun K hK => ?_⟩
   have e21 : a.tmps[21]? = some (.pointer (some ⟨p, 0, none⟩)) := by rw [ha]; exact putSel_on (e := (16, 21, .pointer (some ⟨p, 0, none⟩))) 16 rfl rfl (hon 16 (by kernel_rfl)) rfl
   replace ha := Aside0.mk ha
   have HB := Aside0.mk Q_HB
   refine value_ (w1 := w') (v := .pointer (some ⟨p, 0, none⟩)) (by rfl) rfl ?_ ?_
   ·go_simp
    (try simp only [i64_w])
    try rfl
   refine hK.out _ _ ⟨V1, V2, V3, V4, m21_, (by rw [ha.out]; exact putSel_upk 17 hb_ rfl rfl rfl), Q_HB, Q_F0, Q_F1, Q_F2, Q_F3, fun h0_ => absurd ((hoff 20 (by kernel_rfl)).symm.trans h0_) (by decide), fun h0_ => absurd ((hoff 21 (by kernel_rfl)).symm.trans h0_) (by decide)⟩
  refine steps_cons ?_ ?_
  ·rintro b a w' ⟨V1, V2, V3, V4, m21_, ha, Q_HB, Q_F0, Q_F1, Q_F2, Q_F3, Q_F4, Q_X21_⟩ hb_ hon hoff
   refine ⟨_, rfl, fun K hK => ?_⟩
   have e22 : a.tmps[22]? = some (.pointer (some ⟨p, 0, none⟩)) := by rw [ha]; exact putSel_on (e := (17, 22, .pointer (some ⟨p, 0, none⟩))) 17 rfl rfl (hon 17 (by kernel_rfl)) rfl
   replace ha := Aside0.mk ha
   have HB := Aside0.mk Q_HB
   refine value_ (w1 := w') (v := .pointer (some ⟨p, 6, none⟩)) (by rfl) rfl ?_ ?_
   ·go_simp
    (try simp only [i64_w])
    try rfl
   refine hK.out _ _ ⟨V1, V2, V3, V4, m21_, (by rw [ha.out]; exact putSel_upk 18 hb_ rfl rfl rfl), Q_HB, Q_F0, Q_F1, Q_F2, Q_F3, fun h0_ => absurd ((hoff 20 (by kernel_rfl)).symm.trans h0_) (by decide), fun h0_ => absurd ((hoff 21 (by kernel_rfl)).symm.trans h0_) (by decide)⟩
  refine steps_cons ?_ ?_
  ·rintro b a w' ⟨V1, V2, V3, V4, m21_, ha, Q_HB, Q_F0, Q_F1, Q_F2, Q_F3, Q_F4, Q_X21_⟩ hb_ hon hoff
   refine ⟨_, rfl, fun K hK => ?_⟩
   have e23 : a.tmps[23]? = some (.pointer (some ⟨p, 6, none⟩)) := by rw [ha]; exact putSel_on (e := (18, 23, .pointer (some ⟨p, 6, none⟩))) 18 rfl rfl (hon 18 (by kernel_rfl)) rfl
   replace ha := Aside0.mk ha
   have HB := Aside0.mk Q_HB
   have hc6_ : w'.cell? ⟨p, 6, none⟩ = some (.int .u64 L.floor) := (HL.out.below HB.out).cell 6 _ rfl
   refine value_ (w1 := w') (v := .int .u64 L.floor) (by rfl) rfl ?_ ?_
   ·go_simp
    (try simp only [i64_w])
    try rfl
   refine hK.out _ _ ⟨V1, V2, V3, V4, m21_, (by rw [ha.out]; exact putSel_upk 19 hb_ rfl rfl rfl), Q_HB, Q_F0, Q_F1, Q_F2, Q_F3, fun h0_ => absurd ((hoff 20 (by kernel_rfl)).symm.trans h0_) (by decide), fun h0_ => absurd ((hoff 21 (by kernel_rfl)).symm.trans h0_) (by decide)⟩
  refine steps_cons ?_ ?_
  ·rintro b a w' ⟨V1, V2, V3, V4, m21_, ha, Q_HB, Q_F0, Q_F1, Q_F2, Q_F3, Q_F4, Q_X21_⟩ hb_ hon hoff
   refine ⟨_, rfl, fun K hK => ?_⟩
   have e20 : a.tmps[20]? = some (V3) := by rw [ha]; exact putSel_on (e := (15, 20, V3)) 15 rfl rfl (hon 15 (by kernel_rfl)) rfl
   have e24 : a.tmps[24]? = some (.int .u64 L.floor) := by rw [ha]; exact putSel_on (e := (19, 24, .int .u64 L.floor)) 19 rfl rfl (hon 19 (by kernel_rfl)) rfl
   replace ha := Aside0.mk ha
   have HB := Aside0.mk Q_HB
   have F3 := Aside0.mk (Q_F3 (hon 15 (by kernel_rfl)) hb_)
   refine goes_ Try.func37 (by kernel_rfl) rfl #[V3, .int .u64 L.floor] (by rfl) rfl rfl (by first | (simp only [List.map_toArray, List.map_cons, List.map_nil, Act.eval, Array.getD_eq_getD_getElem?, Option.getD_some, e20, e24]; done) | (simp only [List.map_toArray, List.map_cons, List.map_nil, Act.eval, Array.getD_eq_getD_getElem?, Option.getD_some, e20, e24]; rfl)) ?_
   refine (put_b HB.out F3.out L.floor HN.out.floor.1 HN.out.floor.2 (len_3 HN.out)).mono ?_
   rintro e_ wn_ ⟨vn_, rfl, hr_, hbw_⟩
   refine ⟨_, rfl, ?_⟩
   refine hK.out _ _ ⟨V1, V2, V3, vn_, m21_, (by rw [ha.out]; exact putSel_upk 20 hb_ rfl rfl rfl), hbw_, fun h0_ => absurd ((hon 5 (by kernel_rfl)).symm.trans h0_) (by decide), fun _ h1_ => absurd ((hon 10 (by kernel_rfl)).symm.trans h1_) (by decide), fun _ h1_ => absurd ((hon 15 (by kernel_rfl)).symm.trans h1_) (by decide), fun _ h1_ => absurd ((up_self b 20).symm.trans h1_) (by decide), fun _ => hr_, fun h0_ => absurd ((hoff 21 (by kernel_rfl)).symm.trans h0_) (by decide)⟩
  refine steps_cons ?_ ?_
  ·rintro b a w' ⟨V1, V2, V3, V4, m21_, ha, Q_HB, Q_F0, Q_F1, Q_F2, Q_F3, Q_F4, Q_X21_⟩ hb_ hon hoff
   refine ⟨_, rfl, fun K hK => ?_⟩
   have e25 : a.tmps[25]? = some (V4) := by rw [ha]; exact putSel_on (e := (20, 25, V4)) 20 rfl rfl (hon 20 (by kernel_rfl)) rfl
   replace ha := Aside0.mk ha
   have HB := Aside0.mk Q_HB
   have F4 := Aside0.mk (Q_F4 (hon 20 (by kernel_rfl)))
   refine value_ (w1 := w') (v := V4) (by rfl) rfl ?_ ?_
   ·go_simp
    (try simp only [i64_w])
    try rfl
   refine hK.out _ _ ⟨V1, V2, V3, V4, (V4), (by rw [ha.out]; exact putSel_upk 21 hb_ rfl rfl rfl), Q_HB, fun h0_ => absurd ((hon 5 (by kernel_rfl)).symm.trans h0_) (by decide), fun _ h1_ => absurd ((hon 10 (by kernel_rfl)).symm.trans h1_) (by decide), fun _ h1_ => absurd ((hon 15 (by kernel_rfl)).symm.trans h1_) (by decide), fun _ h1_ => absurd ((hon 20 (by kernel_rfl)).symm.trans h1_) (by decide), Q_F4, fun _ => rfl⟩
  exact steps_nil
 rintro b a w' hall ⟨V1, V2, V3, V4, m21_, ha, Q_HB, Q_F0, Q_F1, Q_F2, Q_F3, Q_F4, Q_X21_⟩
 clear F0 HB
 have hb0_ := hall 0 (by kernel_rfl)
 have hb1_ := hall 1 (by kernel_rfl)
 have hb2_ := hall 2 (by kernel_rfl)
 have hb3_ := hall 3 (by kernel_rfl)
 have hb4_ := hall 4 (by kernel_rfl)
 have hb5_ := hall 5 (by kernel_rfl)
 have hb6_ := hall 6 (by kernel_rfl)
 have hb7_ := hall 7 (by kernel_rfl)
 have hb8_ := hall 8 (by kernel_rfl)
 have hb9_ := hall 9 (by kernel_rfl)
 have hb10_ := hall 10 (by kernel_rfl)
 have hb11_ := hall 11 (by kernel_rfl)
 have hb12_ := hall 12 (by kernel_rfl)
 have hb13_ := hall 13 (by kernel_rfl)
 have hb14_ := hall 14 (by kernel_rfl)
 have hb15_ := hall 15 (by kernel_rfl)
 have hb16_ := hall 16 (by kernel_rfl)
 have hb17_ := hall 17 (by kernel_rfl)
 have hb18_ := hall 18 (by kernel_rfl)
 have hb19_ := hall 19 (by kernel_rfl)
 have hb20_ := hall 20 (by kernel_rfl)
 have hb21_ := hall 21 (by kernel_rfl)
 subst ha
 obtain rfl := Q_X21_ hb21_
 simp only [putSel, hb0_, hb1_, hb2_, hb3_, hb4_, hb5_, hb6_, hb7_, hb8_, hb9_, hb10_, hb11_, hb12_, hb13_, hb14_, hb15_, hb16_, hb17_, hb18_, hb19_, hb20_, hb21_, if_true, Act.put, List.setIfInBounds_toArray, List.set_cons_zero, List.set_cons_succ]
 have HB := Aside0.mk Q_HB
 clear Q_HB Q_F0 Q_F1 Q_F2 Q_F3
 have F4 := Aside0.mk (Q_F4 hb20_)
 clear Q_F4
 clear hall hb0_ hb1_ hb2_ hb3_ hb4_ hb5_ hb6_ hb7_ hb8_ hb9_ hb10_ hb11_ hb12_ hb13_ hb14_ hb15_ hb16_ hb17_ hb18_ hb19_ hb20_ hb21_
 go_wp2
 go_ret
 obtain ⟨A, c, hv, hc, hC⟩ := F4.out.open_
 have hR := F4.out
 rw [hv] at hR
 exact ⟨A, c, congrArg Ending.returned hv, hc, hR, HB.out⟩
def LA.mkI (L : LA) : Int := L.fr + (L.seq + 1) % 2
def LA.mkE (L : LA) (M : DA) : Int := if M.wrE L.mkI L.up.mb.length = 0 then (M.wr L.mkI L.up.mb).syE else M.wrE L.mkI L.up.mb.length
def LA.mkM (L : LA) (M : DA) : DA := if M.wrE L.mkI L.up.mb.length = 0 then (M.wr L.mkI L.up.mb).sy else M.wr L.mkI L.up.mb
def wlmk2.T2 : Bool × List (List Nat × List Nat) := (true, [([], []), ([0], [0]), ([1], [1]), ([2], [2]), ([], []), ([4], [4]), ([5], [5]), ([6], [6]), ([], []), ([8], [8]), ([9], [9]), ([10], [10]), ([11], [11]), ([12], [12]), ([7, 13], [7, 13]), ([], []), ([15], [15]), ([3, 14, 16, 16], [3, 14, 16]), ([17, 17, 0, 1, 2, 3, 4, 5, 6, 7, 8, 9, 10, 11, 12, 13, 14, 15, 16, 17], [17])])
def wlmk2.B2 : List Nat := [0, 1, 3, 7, 0, 16, 48, 112, 0, 256, 768, 1792, 3840, 7936, 16368, 0, 32768, 131071, 262143]
theorem wlmk2.tab2 : rtab .any (opsOf Try.f56 2) = wlmk2.T2 := by kernel_rfl
theorem wlmk2.bits2 : waitsOk wlmk2.T2.2 wlmk2.B2 = true := by kernel_rfl
theorem Lg.setw {L1 : LA} {j : Nat} {v : Value} (h : Lg w0 w p g S L M) (hv : (L.cs g).set! j v = L1.cs g) : Lg w0 (w.setCell ⟨p, j, none⟩ v) p g S L1 M :=
 ⟨h.D.set h.N h.P v, by rw [← hv]; exact blk_put h.B j v rfl, h.P, h.N⟩
theorem wr_wait (M : DA) (i : Int) (l : List Int) : (M.wr i l).wait.length ≤ M.wait.length + 1 := by
 unfold DA.wr
 split
 ·unfold DA.put
  have : M.step.wait = M.wait := by unfold DA.step; split <;> (try split) <;> rfl
  simp [this]
 ·omega
set_option maxRecDepth 100000 in
set_option maxHeartbeats 4000000 in
theorem mark_l (h : Lg w0 w p g S L M) (hN : L.up.Nm) (hq : 0 ≤ L.seq) (hw : M.wait.length < 999999) : Calls Try.prog 56 #[.pointer (some ⟨p, 0, none⟩)] w fun e w' => e = .returned (.int .i64 (L.mkE M)) ∧ ∃ S', Lg w0 w' p g S' L.up (L.mkM M) ∧ (∀ k, S' k → S k ∨ w.heap.size ≤ k) ∧ Kept w w' (fun k => S k ∨ k = p) := by
 have HL0 := Aside0.mk h
 have HNm := Aside0.mk hN
 have c3 : w.cell? ⟨p, 3, none⟩ = some (.int .u64 L.seq) := h.cell 3 _ rfl
 have f3 : w.frozen? ⟨p, 3, none⟩ = false := blk_frozen h.B 3
 have hs := hN.seq
 have hf := hN.f0
 have hwt := Aside0.mk (show M.wait.length < 1000000 by omega)
 have hw9 := Aside0.mk hw
 have hwq : IntKind.u64.wrap (L.seq + 1) = L.seq + 1 := wu64 (by omega) hs.2
 have hm1 := Int.emod_nonneg (L.seq + 1) (show (2 : Int) ≠ 0 by decide)
 have hm2 := Int.emod_lt_of_pos (L.seq + 1) (show (0 : Int) < 2 by decide)
 have hmod := Aside0.mk (show Int.tmod (L.seq + 1) 2 = (L.seq + 1) % 2 from Int.tmod_eq_emod_of_nonneg (by omega))
 have hwm := Aside0.mk (show IntKind.i64.wrap ((L.seq + 1) % 2) = (L.seq + 1) % 2 from wi64 (by omega) (by omega))
 have hwf := Aside0.mk (show IntKind.i64.wrap (L.fr + (L.seq + 1) % 2) = L.fr + (L.seq + 1) % 2 from wi64 (by have : 0 ≤ L.fr := hf.1; omega) (by have : L.fr ≤ 65536 := hf.2; omega))
 clear hs hf hN hw hm1 hm2
 go_enter Try.func56, Try.ntmps56
 go_upto_region 2 with fail
 have HLa := Aside0.mk (show Lg w0 (w.setCell ⟨p, 3, none⟩ (.int .u64 (L.seq + 1))) p g S L.up M from h.setw rfl)
 have HKa := Aside0.mk ((Kept.refl w (fun k => S k ∨ k = p)).setCell (p := ⟨p, 3, none⟩) (.inl (.inr rfl)) (.int .u64 (L.seq + 1)))
 have hsz : (w.setCell ⟨p, 3, none⟩ (.int .u64 (L.seq + 1))).heap.size = w.heap.size := by simp [World.setCell]
 have hsz' := Aside0.mk hsz
 clear h c3 f3 HL0 hwq hq hsz
 generalize w.setCell _ _ = wa at HLa HKa hsz' ⊢
 have HL := HLa
 have HS := Aside0.mk (fun k hk => (HL.out.D.lt k hk).2)
 have HB := Aside0.mk (Below.refl wa.heap.size wa)
 refine start_ (n := 19) (S := fun w' => True) (ds := []) #[false, false, false, false, false, false, false, false, false, false, false, false, false, false, false, false, false, false, false] (by kernel_rfl) rfl rfl trivial (fun hHeld => ?_)
 refine with_tabW wlmk2.tab2 wlmk2.bits2 (fun HT_ HW_ => ?_)
 have n0_ := Aside0.mk (below_drew HB.out)
 clear HB
 generalize World.drew _ = wd at n0_ hHeld ⊢
 have HB := n0_
 clear hHeld n0_
 refine inv_at [0, 1, 2, 3, 4, 5, 6, 7, 8, 9, 10, 11, 12, 13, 14, 15, 16, 17, 18] (fun a0_ b a w' => ∃ (A16 : Option Addr) (c16 : Nat) (m16_ : Value), a = putSel a0_ b [(0, 11, .pointer (some ⟨p, 0, none⟩)), (1, 12, .pointer (some ⟨p, 0, none⟩)), (2, 13, .pointer (some ⟨p, 0, none⟩)), (3, 14, .pointer (some ⟨g, 0, none⟩)), (4, 15, .pointer (some ⟨p, 0, none⟩)), (5, 16, .pointer (some ⟨p, 0, none⟩)), (6, 17, .pointer (some ⟨p, 1, none⟩)), (7, 18, .int .i64 L.fr), (8, 19, .pointer (some ⟨p, 0, none⟩)), (9, 20, .pointer (some ⟨p, 0, none⟩)), (10, 21, .pointer (some ⟨p, 3, none⟩)), (11, 22, .int .u64 (L.seq + 1)), (12, 23, .int .u64 ((L.seq + 1) % 2)), (13, 24, .int .i64 ((L.seq + 1) % 2)), (14, 25, .int .i64 (L.fr + (L.seq + 1) % 2)), (15, 26, .pointer (some ⟨p, 0, none⟩)), (16, 27, m16_), (17, 28, .int .i64 (M.wrE (L.fr + (L.seq + 1) % 2) L.up.mb.length)), (18, 3, .int .i64 (M.wrE (L.fr + (L.seq + 1) % 2) L.up.mb.length))] ∧ (b 17 = false → Below wa.heap.size wa w') ∧ (b 16 = true → b 17 = false → Rb wa w' (.slice A16 L.up.mb.length c16) L.up.mb) ∧ (b 16 = true → L.up.mb.length ≤ c16) ∧ (b 17 = true → ∃ S', Lg w0 w' p g S' L.up (M.wr (L.fr + (L.seq + 1) % 2) L.up.mb) ∧ (∀ k, S' k → S k ∨ wa.heap.size ≤ k) ∧ Kept wa w' S) ∧ (b 16 = true → (m16_ : Value) = .slice A16 L.up.mb.length c16)) HT_.out HW_.out (by kernel_rfl) (by kernel_rfl) ?_ ?_ ?_
 ·exact ⟨none, 0, .bool false, by simp only [putSel, Bool.false_eq_true, if_false], fun _ => HB.out, fun h_ => absurd h_ (by decide), fun h_ => absurd h_ (by decide), fun h_ => absurd h_ (by decide), fun h_ => absurd h_ (by decide)⟩
 ·skip
  clear HB
  refine steps_cons ?_ ?_
  ·rintro b a w' ⟨A16, c16, m16_, ha, Q_HB, Q_HR, Q_HC, Q_HN, Q_X16_⟩ hb_ hon hoff
   refine ⟨_, rfl, fun K hK => ?_⟩
   have e0 : a.tmps[0]? = some (.pointer (some ⟨p, 0, none⟩)) := by rw [ha]; exact (putSel_off rfl).trans rfl
   replace ha := Aside0.mk ha
   have HB := Aside0.mk (Q_HB (hoff 17 (by kernel_rfl)))
   refine value_ (w1 := w') (v := .pointer (some ⟨p, 0, none⟩)) (by rfl) rfl ?_ ?_
   ·go_simp
    (try simp only [i64_w])
    try rfl
   refine hK.out _ _ ⟨A16, c16, m16_, (by rw [ha.out]; exact putSel_upk 0 hb_ rfl rfl rfl), Q_HB, Q_HR, Q_HC, fun h0_ => absurd ((hoff 17 (by kernel_rfl)).symm.trans h0_) (by decide), Q_X16_⟩
  refine steps_cons ?_ ?_
  ·rintro b a w' ⟨A16, c16, m16_, ha, Q_HB, Q_HR, Q_HC, Q_HN, Q_X16_⟩ hb_ hon hoff
   refine ⟨_, rfl, fun K hK => ?_⟩
   have e11 : a.tmps[11]? = some (.pointer (some ⟨p, 0, none⟩)) := by rw [ha]; exact putSel_on (e := (0, 11, .pointer (some ⟨p, 0, none⟩))) 0 rfl rfl (hon 0 (by kernel_rfl)) rfl
   replace ha := Aside0.mk ha
   have HB := Aside0.mk (Q_HB (hoff 17 (by kernel_rfl)))
   refine value_ (w1 := w') (v := .pointer (some ⟨p, 0, none⟩)) (by rfl) rfl ?_ ?_
   ·go_simp
    (try simp only [i64_w])
    try rfl
   refine hK.out _ _ ⟨A16, c16, m16_, (by rw [ha.out]; exact putSel_upk 1 hb_ rfl rfl rfl), Q_HB, Q_HR, Q_HC, fun h0_ => absurd ((hoff 17 (by kernel_rfl)).symm.trans h0_) (by decide), Q_X16_⟩
  refine steps_cons ?_ ?_
  ·rintro b a w' ⟨A16, c16, m16_, ha, Q_HB, Q_HR, Q_HC, Q_HN, Q_X16_⟩ hb_ hon hoff
   refine ⟨_, rfl, fun K hK => ?_⟩
   have e12 : a.tmps[12]? = some (.pointer (some ⟨p, 0, none⟩)) := by rw [ha]; exact putSel_on (e := (1, 12, .pointer (some ⟨p, 0, none⟩))) 1 rfl rfl (hon 1 (by kernel_rfl)) rfl
   replace ha := Aside0.mk ha
   have HB := Aside0.mk (Q_HB (hoff 17 (by kernel_rfl)))
   refine value_ (w1 := w') (v := .pointer (some ⟨p, 0, none⟩)) (by rfl) rfl ?_ ?_
   ·go_simp
    (try simp only [i64_w])
    try rfl
   refine hK.out _ _ ⟨A16, c16, m16_, (by rw [ha.out]; exact putSel_upk 2 hb_ rfl rfl rfl), Q_HB, Q_HR, Q_HC, fun h0_ => absurd ((hoff 17 (by kernel_rfl)).symm.trans h0_) (by decide), Q_X16_⟩
  refine steps_cons ?_ ?_
  ·rintro b a w' ⟨A16, c16, m16_, ha, Q_HB, Q_HR, Q_HC, Q_HN, Q_X16_⟩ hb_ hon hoff
   refine ⟨_, rfl, fun K hK => ?_⟩
   have e13 : a.tmps[13]? = some (.pointer (some ⟨p, 0, none⟩)) := by rw [ha]; exact putSel_on (e := (2, 13, .pointer (some ⟨p, 0, none⟩))) 2 rfl rfl (hon 2 (by kernel_rfl)) rfl
   replace ha := Aside0.mk ha
   have HB := Aside0.mk (Q_HB (hoff 17 (by kernel_rfl)))
   have hc0_ : w'.cell? ⟨p, 0, none⟩ = some (.pointer (some ⟨g, 0, none⟩)) := (HL.out.below HB.out).cell 0 _ rfl
   refine value_ (w1 := w') (v := .pointer (some ⟨g, 0, none⟩)) (by rfl) rfl ?_ ?_
   ·go_simp
    (try simp only [i64_w])
    try rfl
   refine hK.out _ _ ⟨A16, c16, m16_, (by rw [ha.out]; exact putSel_upk 3 hb_ rfl rfl rfl), Q_HB, Q_HR, Q_HC, fun h0_ => absurd ((hoff 17 (by kernel_rfl)).symm.trans h0_) (by decide), Q_X16_⟩
  refine steps_cons ?_ ?_
  ·rintro b a w' ⟨A16, c16, m16_, ha, Q_HB, Q_HR, Q_HC, Q_HN, Q_X16_⟩ hb_ hon hoff
   refine ⟨_, rfl, fun K hK => ?_⟩
   have e0 : a.tmps[0]? = some (.pointer (some ⟨p, 0, none⟩)) := by rw [ha]; exact (putSel_off rfl).trans rfl
   replace ha := Aside0.mk ha
   have HB := Aside0.mk (Q_HB (hoff 17 (by kernel_rfl)))
   refine value_ (w1 := w') (v := .pointer (some ⟨p, 0, none⟩)) (by rfl) rfl ?_ ?_
   ·go_simp
    (try simp only [i64_w])
    try rfl
   refine hK.out _ _ ⟨A16, c16, m16_, (by rw [ha.out]; exact putSel_upk 4 hb_ rfl rfl rfl), Q_HB, Q_HR, Q_HC, fun h0_ => absurd ((hoff 17 (by kernel_rfl)).symm.trans h0_) (by decide), Q_X16_⟩
  refine steps_cons ?_ ?_
  ·rintro b a w' ⟨A16, c16, m16_, ha, Q_HB, Q_HR, Q_HC, Q_HN, Q_X16_⟩ hb_ hon hoff
   refine ⟨_, rfl, fun K hK => ?_⟩
   have e15 : a.tmps[15]? = some (.pointer (some ⟨p, 0, none⟩)) := by rw [ha]; exact putSel_on (e := (4, 15, .pointer (some ⟨p, 0, none⟩))) 4 rfl rfl (hon 4 (by kernel_rfl)) rfl
   replace ha := Aside0.mk ha
   have HB := Aside0.mk (Q_HB (hoff 17 (by kernel_rfl)))
   refine value_ (w1 := w') (v := .pointer (some ⟨p, 0, none⟩)) (by rfl) rfl ?_ ?_
   ·go_simp
    (try simp only [i64_w])
    try rfl
   refine hK.out _ _ ⟨A16, c16, m16_, (by rw [ha.out]; exact putSel_upk 5 hb_ rfl rfl rfl), Q_HB, Q_HR, Q_HC, fun h0_ => absurd ((hoff 17 (by kernel_rfl)).symm.trans h0_) (by decide), Q_X16_⟩
  refine steps_cons ?_ ?_
  ·rintro b a w' ⟨A16, c16, m16_, ha, Q_HB, Q_HR, Q_HC, Q_HN, Q_X16_⟩ hb_ hon hoff
   refine ⟨_, rfl, fun K hK => ?_⟩
   have e16 : a.tmps[16]? = some (.pointer (some ⟨p, 0, none⟩)) := by rw [ha]; exact putSel_on (e := (5, 16, .pointer (some ⟨p, 0, none⟩))) 5 rfl rfl (hon 5 (by kernel_rfl)) rfl
   replace ha := Aside0.mk ha
   have HB := Aside0.mk (Q_HB (hoff 17 (by kernel_rfl)))
   refine value_ (w1 := w') (v := .pointer (some ⟨p, 1, none⟩)) (by rfl) rfl ?_ ?_
   ·go_simp
    (try simp only [i64_w])
    try rfl
   refine hK.out _ _ ⟨A16, c16, m16_, (by rw [ha.out]; exact putSel_upk 6 hb_ rfl rfl rfl), Q_HB, Q_HR, Q_HC, fun h0_ => absurd ((hoff 17 (by kernel_rfl)).symm.trans h0_) (by decide), Q_X16_⟩
  refine steps_cons ?_ ?_
  ·rintro b a w' ⟨A16, c16, m16_, ha, Q_HB, Q_HR, Q_HC, Q_HN, Q_X16_⟩ hb_ hon hoff
   refine ⟨_, rfl, fun K hK => ?_⟩
   have e17 : a.tmps[17]? = some (.pointer (some ⟨p, 1, none⟩)) := by rw [ha]; exact putSel_on (e := (6, 17, .pointer (some ⟨p, 1, none⟩))) 6 rfl rfl (hon 6 (by kernel_rfl)) rfl
   replace ha := Aside0.mk ha
   have HB := Aside0.mk (Q_HB (hoff 17 (by kernel_rfl)))
   have hc1_ : w'.cell? ⟨p, 1, none⟩ = some (.int .i64 L.fr) := (HL.out.below HB.out).cell 1 _ rfl
   refine value_ (w1 := w') (v := .int .i64 L.fr) (by rfl) rfl ?_ ?_
   ·go_simp
    (try simp only [i64_w])
    try rfl
   refine hK.out _ _ ⟨A16, c16, m16_, (by rw [ha.out]; exact putSel_upk 7 hb_ rfl rfl rfl), Q_HB, Q_HR, Q_HC, fun h0_ => absurd ((hoff 17 (by kernel_rfl)).symm.trans h0_) (by decide), Q_X16_⟩
  refine steps_cons ?_ ?_
  ·rintro b a w' ⟨A16, c16, m16_, ha, Q_HB, Q_HR, Q_HC, Q_HN, Q_X16_⟩ hb_ hon hoff
   refine ⟨_, rfl, fun K hK => ?_⟩
   have e0 : a.tmps[0]? = some (.pointer (some ⟨p, 0, none⟩)) := by rw [ha]; exact (putSel_off rfl).trans rfl
   replace ha := Aside0.mk ha
   have HB := Aside0.mk (Q_HB (hoff 17 (by kernel_rfl)))
   refine value_ (w1 := w') (v := .pointer (some ⟨p, 0, none⟩)) (by rfl) rfl ?_ ?_
   ·go_simp
    (try simp only [i64_w])
    try rfl
   refine hK.out _ _ ⟨A16, c16, m16_, (by rw [ha.out]; exact putSel_upk 8 hb_ rfl rfl rfl), Q_HB, Q_HR, Q_HC, fun h0_ => absurd ((hoff 17 (by kernel_rfl)).symm.trans h0_) (by decide), Q_X16_⟩
  refine steps_cons ?_ ?_
  ·rintro b a w' ⟨A16, c16, m16_, ha, Q_HB, Q_HR, Q_HC, Q_HN, Q_X16_⟩ hb_ hon hoff
   refine ⟨_, rfl, fun K hK => ?_⟩
   have e19 : a.tmps[19]? = some (.pointer (some ⟨p, 0, none⟩)) := by rw [ha]; exact putSel_on (e := (8, 19, .pointer (some ⟨p, 0, none⟩))) 8 rfl rfl (hon 8 (by kernel_rfl)) rfl
   replace ha := Aside0.mk ha
   have HB := Aside0.mk (Q_HB (hoff 17 (by kernel_rfl)))
   refine value_ (w1 := w') (v := .pointer (some ⟨p, 0, none⟩)) (by rfl) rfl ?_ ?_
   ·go_simp
    (try simp only [i64_w])
    try rfl
   refine hK.out _ _ ⟨A16, c16, m16_, (by rw [ha.out]; exact putSel_upk 9 hb_ rfl rfl rfl), Q_HB, Q_HR, Q_HC, fun h0_ => absurd ((hoff 17 (by kernel_rfl)).symm.trans h0_) (by decide), Q_X16_⟩
  refine steps_cons ?_ ?_
  ·rintro b a w' ⟨A16, c16, m16_, ha, Q_HB, Q_HR, Q_HC, Q_HN, Q_X16_⟩ hb_ hon hoff
   refine ⟨_, rfl, fun K hK => ?_⟩
   have e20 : a.tmps[20]? = some (.pointer (some ⟨p, 0, none⟩)) := by rw [ha]; exact putSel_on (e := (9, 20, .pointer (some ⟨p, 0, none⟩))) 9 rfl rfl (hon 9 (by kernel_rfl)) rfl
   replace ha := Aside0.mk ha
   have HB := Aside0.mk (Q_HB (hoff 17 (by kernel_rfl)))
   refine value_ (w1 := w') (v := .pointer (some ⟨p, 3, none⟩)) (by rfl) rfl ?_ ?_
   ·go_simp
    (try simp only [i64_w])
    try rfl
   refine hK.out _ _ ⟨A16, c16, m16_, (by rw [ha.out]; exact putSel_upk 10 hb_ rfl rfl rfl), Q_HB, Q_HR, Q_HC, fun h0_ => absurd ((hoff 17 (by kernel_rfl)).symm.trans h0_) (by decide), Q_X16_⟩
  refine steps_cons ?_ ?_
  ·rintro b a w' ⟨A16, c16, m16_, ha, Q_HB, Q_HR, Q_HC, Q_HN, Q_X16_⟩ hb_ hon hoff
   refine ⟨_, rfl, fun K hK => ?_⟩
   have e21 : a.tmps[21]? = some (.pointer (some ⟨p, 3, none⟩)) := by rw [ha]; exact putSel_on (e := (10, 21, .pointer (some ⟨p, 3, none⟩))) 10 rfl rfl (hon 10 (by kernel_rfl)) rfl
   replace ha := Aside0.mk ha
   have HB := Aside0.mk (Q_HB (hoff 17 (by kernel_rfl)))
   have hc3_ : w'.cell? ⟨p, 3, none⟩ = some (.int .u64 (L.seq + 1)) := (HL.out.below HB.out).cell 3 _ rfl
   refine value_ (w1 := w') (v := .int .u64 (L.seq + 1)) (by rfl) rfl ?_ ?_
   ·go_simp
    (try simp only [i64_w])
    try rfl
   refine hK.out _ _ ⟨A16, c16, m16_, (by rw [ha.out]; exact putSel_upk 11 hb_ rfl rfl rfl), Q_HB, Q_HR, Q_HC, fun h0_ => absurd ((hoff 17 (by kernel_rfl)).symm.trans h0_) (by decide), Q_X16_⟩
  refine steps_cons ?_ ?_
  ·rintro b a w' ⟨A16, c16, m16_, ha, Q_HB, Q_HR, Q_HC, Q_HN, Q_X16_⟩ hb_ hon hoff
   refine ⟨_, rfl, fun K hK => ?_⟩
   have e22 : a.tmps[22]? = some (.int .u64 (L.seq + 1)) := by rw [ha]; exact putSel_on (e := (11, 22, .int .u64 (L.seq + 1))) 11 rfl rfl (hon 11 (by kernel_rfl)) rfl
   replace ha := Aside0.mk ha
   have HB := Aside0.mk (Q_HB (hoff 17 (by kernel_rfl)))
   have hm_ := hmod.out
   refine value_ (w1 := w') (v := .int .u64 ((L.seq + 1) % 2)) (by rfl) rfl ?_ ?_
   ·go_simp
    (try simp only [i64_w])
    try rfl
   refine hK.out _ _ ⟨A16, c16, m16_, (by rw [ha.out]; exact putSel_upk 12 hb_ rfl rfl rfl), Q_HB, Q_HR, Q_HC, fun h0_ => absurd ((hoff 17 (by kernel_rfl)).symm.trans h0_) (by decide), Q_X16_⟩
  refine steps_cons ?_ ?_
  ·rintro b a w' ⟨A16, c16, m16_, ha, Q_HB, Q_HR, Q_HC, Q_HN, Q_X16_⟩ hb_ hon hoff
   refine ⟨_, rfl, fun K hK => ?_⟩
   have e23 : a.tmps[23]? = some (.int .u64 ((L.seq + 1) % 2)) := by rw [ha]; exact putSel_on (e := (12, 23, .int .u64 ((L.seq + 1) % 2))) 12 rfl rfl (hon 12 (by kernel_rfl)) rfl
   replace ha := Aside0.mk ha
   have HB := Aside0.mk (Q_HB (hoff 17 (by kernel_rfl)))
   have hm_ := hwm.out
   refine value_ (w1 := w') (v := .int .i64 ((L.seq + 1) % 2)) (by rfl) rfl ?_ ?_
   ·go_simp
    (try simp only [i64_w])
    try rfl
   refine hK.out _ _ ⟨A16, c16, m16_, (by rw [ha.out]; exact putSel_upk 13 hb_ rfl rfl rfl), Q_HB, Q_HR, Q_HC, fun h0_ => absurd ((hoff 17 (by kernel_rfl)).symm.trans h0_) (by decide), Q_X16_⟩
  refine steps_cons ?_ ?_
  ·rintro b a w' ⟨A16, c16, m16_, ha, Q_HB, Q_HR, Q_HC, Q_HN, Q_X16_⟩ hb_ hon hoff
   refine ⟨_, rfl, fun K hK => ?_⟩
   have e18 : a.tmps[18]? = some (.int .i64 L.fr) := by rw [ha]; exact putSel_on (e := (7, 18, .int .i64 L.fr)) 7 rfl rfl (hon 7 (by kernel_rfl)) rfl
   have e24 : a.tmps[24]? = some (.int .i64 ((L.seq + 1) % 2)) := by rw [ha]; exact putSel_on (e := (13, 24, .int .i64 ((L.seq + 1) % 2))) 13 rfl rfl (hon 13 (by kernel_rfl)) rfl
   replace ha := Aside0.mk ha
   have HB := Aside0.mk (Q_HB (hoff 17 (by kernel_rfl)))
   have hm_ := hwf.out
   refine value_ (w1 := w') (v := .int .i64 (L.fr + (L.seq + 1) % 2)) (by rfl) rfl ?_ ?_
   ·go_simp
    (try simp only [i64_w])
    try rfl
   refine hK.out _ _ ⟨A16, c16, m16_, (by rw [ha.out]; exact putSel_upk 14 hb_ rfl rfl rfl), Q_HB, Q_HR, Q_HC, fun h0_ => absurd ((hoff 17 (by kernel_rfl)).symm.trans h0_) (by decide), Q_X16_⟩
  refine steps_cons ?_ ?_
  ·rintro b a w' ⟨A16, c16, m16_, ha, Q_HB, Q_HR, Q_HC, Q_HN, Q_X16_⟩ hb_ hon hoff
   refine ⟨_, rfl, fun K hK => ?_⟩
   have e0 : a.tmps[0]? = some (.pointer (some ⟨p, 0, none⟩)) := by rw [ha]; exact (putSel_off rfl).trans rfl
   replace ha := Aside0.mk ha
   have HB := Aside0.mk (Q_HB (hoff 17 (by kernel_rfl)))
   refine value_ (w1 := w') (v := .pointer (some ⟨p, 0, none⟩)) (by rfl) rfl ?_ ?_
   ·go_simp
    (try simp only [i64_w])
    try rfl
   refine hK.out _ _ ⟨A16, c16, m16_, (by rw [ha.out]; exact putSel_upk 15 hb_ rfl rfl rfl), Q_HB, fun h0_ _ => absurd ((hoff 16 (by kernel_rfl)).symm.trans h0_) (by decide), fun h0_ => absurd ((hoff 16 (by kernel_rfl)).symm.trans h0_) (by decide), fun h0_ => absurd ((hoff 17 (by kernel_rfl)).symm.trans h0_) (by decide), fun h0_ => absurd ((hoff 16 (by kernel_rfl)).symm.trans h0_) (by decide)⟩
  refine steps_cons ?_ ?_
  ·rintro b a w' ⟨A16, c16, m16_, ha, Q_HB, Q_HR, Q_HC, Q_HN, Q_X16_⟩ hb_ hon hoff
   refine ⟨_, rfl, fun K hK => ?_⟩
   have e26 : a.tmps[26]? = some (.pointer (some ⟨p, 0, none⟩)) := by rw [ha]; exact putSel_on (e := (15, 26, .pointer (some ⟨p, 0, none⟩))) 15 rfl rfl (hon 15 (by kernel_rfl)) rfl
   replace ha := Aside0.mk ha
   have HB := Aside0.mk (Q_HB (hoff 17 (by kernel_rfl)))
   refine goes_ Try.func64 (by kernel_rfl) rfl #[.pointer (some ⟨p, 0, none⟩)] (by rfl) rfl rfl (by first | (simp only [List.map_toArray, List.map_cons, List.map_nil, Act.eval, Array.getD_eq_getD_getElem?, Option.getD_some, e26]; done) | (simp only [List.map_toArray, List.map_cons, List.map_nil, Act.eval, Array.getD_eq_getD_getElem?, Option.getD_some, e26]; rfl)) ?_
   refine (master_b (HL.out.below HB.out) HNm.out).mono ?_
   rintro e_ wn_ ⟨An_, cn_, rfl, hc_, hr_, hbw_⟩
   refine ⟨_, rfl, ?_⟩
   refine hK.out _ _ ⟨An_, cn_, (.slice An_ L.up.mb.length cn_), (by rw [ha.out]; exact putSel_upk 16 hb_ rfl rfl rfl), fun _ => (below_step HB.out hbw_), fun _ _ => (Kd.R_lower hr_ HB.out.size), fun _ => hc_, fun h0_ => absurd ((hoff 17 (by kernel_rfl)).symm.trans h0_) (by decide), fun _ => rfl⟩
  refine steps_cons ?_ ?_
  ·rintro b a w' ⟨A16, c16, m16_, ha, Q_HB, Q_HR, Q_HC, Q_HN, Q_X16_⟩ hb_ hon hoff
   refine ⟨_, rfl, fun K hK => ?_⟩
   have e14 : a.tmps[14]? = some (.pointer (some ⟨g, 0, none⟩)) := by rw [ha]; exact putSel_on (e := (3, 14, .pointer (some ⟨g, 0, none⟩))) 3 rfl rfl (hon 3 (by kernel_rfl)) rfl
   have e25 : a.tmps[25]? = some (.int .i64 (L.fr + (L.seq + 1) % 2)) := by rw [ha]; exact putSel_on (e := (14, 25, .int .i64 (L.fr + (L.seq + 1) % 2))) 14 rfl rfl (hon 14 (by kernel_rfl)) rfl
   have e27 : a.tmps[27]? = some (m16_) := by rw [ha]; exact putSel_on (e := (16, 27, m16_)) 16 rfl rfl (hon 16 (by kernel_rfl)) rfl
   rw [Q_X16_ (hon 16 (by kernel_rfl))] at e27
   replace ha := Aside0.mk ha
   have HB := Aside0.mk (Q_HB hb_)
   have HR := Aside0.mk (Q_HR (hon 16 (by kernel_rfl)) hb_)
   have HC := Aside0.mk (Q_HC (hon 16 (by kernel_rfl)))
   refine goes_ Try.func20 (by kernel_rfl) rfl #[.pointer (some ⟨g, 0, none⟩), .int .i64 (L.fr + (L.seq + 1) % 2), .slice A16 L.up.mb.length c16] (by rfl) rfl rfl (by first | (simp only [List.map_toArray, List.map_cons, List.map_nil, Act.eval, Array.getD_eq_getD_getElem?, Option.getD_some, e14, e25, e27]; done) | (simp only [List.map_toArray, List.map_cons, List.map_nil, Act.eval, Array.getD_eq_getD_getElem?, Option.getD_some, e14, e25, e27]; rfl)) ?_
   refine (st_write (HL.out.below HB.out).D (L.fr + (L.seq + 1) % 2) A16 c16 L.up.mb (fun W' hk_ => rb_kept HR.out hk_ HS.out) HC.out hwt.out).mono ?_
   rintro e_ wn_ ⟨rfl, S'_, hs_, hsub_, hkp_⟩
   refine ⟨_, rfl, ?_⟩
   refine hK.out _ _ ⟨A16, c16, m16_, (by rw [ha.out]; exact putSel_upk 17 hb_ rfl rfl rfl), fun h0_ => absurd ((up_self b 17).symm.trans h0_) (by decide), fun _ h1_ => absurd ((up_self b 17).symm.trans h1_) (by decide), Q_HC, fun _ => ⟨S'_, ⟨hs_, (hkp_.block p (HL.out.below HB.out).lt HL.out.N).trans (HL.out.below HB.out).B, HL.out.P, fun h_ => (hsub_ p h_).elim HL.out.N (fun h2_ => Nat.lt_irrefl _ (Nat.lt_of_lt_of_le (HL.out.below HB.out).lt h2_))⟩, fun k_ h_ => (hsub_ k_ h_).imp id (fun h2_ => Nat.le_trans HB.out.size h2_), (Dk.Kept.of_below HB.out S).then_ hkp_ (fun _ h_ => .inl h_)⟩, Q_X16_⟩
  refine steps_cons ?_ ?_
  ·rintro b a w' ⟨A16, c16, m16_, ha, Q_HB, Q_HR, Q_HC, Q_HN, Q_X16_⟩ hb_ hon hoff
   refine ⟨_, rfl, fun K hK => ?_⟩
   have e28 : a.tmps[28]? = some (.int .i64 (M.wrE (L.fr + (L.seq + 1) % 2) L.up.mb.length)) := by rw [ha]; exact putSel_on (e := (17, 28, .int .i64 (M.wrE (L.fr + (L.seq + 1) % 2) L.up.mb.length))) 17 rfl rfl (hon 17 (by kernel_rfl)) rfl
   replace ha := Aside0.mk ha
   have HC := Aside0.mk (Q_HC (hon 16 (by kernel_rfl)))
   have HN := Aside0.mk (Q_HN (hon 17 (by kernel_rfl)))
   refine value_ (w1 := w') (v := .int .i64 (M.wrE (L.fr + (L.seq + 1) % 2) L.up.mb.length)) (by rfl) rfl ?_ ?_
   ·go_simp
    (try simp only [i64_w])
    try rfl
   refine hK.out _ _ ⟨A16, c16, m16_, (by rw [ha.out]; exact putSel_upk 18 hb_ rfl rfl rfl), fun h0_ => absurd ((hon 17 (by kernel_rfl)).symm.trans h0_) (by decide), fun _ h1_ => absurd ((hon 17 (by kernel_rfl)).symm.trans h1_) (by decide), Q_HC, Q_HN, Q_X16_⟩
  exact steps_nil
 rintro b a w' hall ⟨A16, c16, m16_, ha, Q_HB, Q_HR, Q_HC, Q_HN, Q_X16_⟩
 clear HB
 have hb0_ := hall 0 (by kernel_rfl)
 have hb1_ := hall 1 (by kernel_rfl)
 have hb2_ := hall 2 (by kernel_rfl)
 have hb3_ := hall 3 (by kernel_rfl)
 have hb4_ := hall 4 (by kernel_rfl)
 have hb5_ := hall 5 (by kernel_rfl)
 have hb6_ := hall 6 (by kernel_rfl)
 have hb7_ := hall 7 (by kernel_rfl)
 have hb8_ := hall 8 (by kernel_rfl)
 have hb9_ := hall 9 (by kernel_rfl)
 have hb10_ := hall 10 (by kernel_rfl)
 have hb11_ := hall 11 (by kernel_rfl)
 have hb12_ := hall 12 (by kernel_rfl)
 have hb13_ := hall 13 (by kernel_rfl)
 have hb14_ := hall 14 (by kernel_rfl)
 have hb15_ := hall 15 (by kernel_rfl)
 have hb16_ := hall 16 (by kernel_rfl)
 have hb17_ := hall 17 (by kernel_rfl)
 have hb18_ := hall 18 (by kernel_rfl)
 subst ha
 obtain rfl := Q_X16_ hb16_
 simp only [putSel, hb0_, hb1_, hb2_, hb3_, hb4_, hb5_, hb6_, hb7_, hb8_, hb9_, hb10_, hb11_, hb12_, hb13_, hb14_, hb15_, hb16_, hb17_, hb18_, if_true, Act.put, List.setIfInBounds_toArray, List.set_cons_zero, List.set_cons_succ]
 clear Q_HB Q_HR
 have HC := Aside0.mk (Q_HC hb16_)
 clear Q_HC
 have HN := Aside0.mk (Q_HN hb17_)
 clear Q_HN
 clear hall hb0_ hb1_ hb2_ hb3_ hb4_ hb5_ hb6_ hb7_ hb8_ hb9_ hb10_ hb11_ hb12_ hb13_ hb14_ hb15_ hb16_ hb17_ hb18_
 obtain ⟨S1, hl1, hsub, hkp⟩ := HN.out
 have HL1 := Aside0.mk hl1
 have HS1 := Aside0.mk hsub
 have HK1 := Aside0.mk (HKa.out.then_ hkp (fun k h => .inl (.inl h)))
 clear hl1 hsub hkp HN HKa HL HLa HC
 obtain ⟨E, hE⟩ : ∃ E, E = M.wrE L.mkI L.up.mb.length := ⟨_, rfl⟩
 have HE := Aside0.mk hE
 simp only [show M.wrE (L.fr + (L.seq + 1) % 2) L.up.mb.length = E from hE.symm]
 clear hE
 by_cases hz : E = 0
 ·subst hz
  have c0 := HL1.out.all.1
  go_wp2_with fail
  refine (st_sync HL1.out.D (by have := wr_wait M (L.fr + (L.seq + 1) % 2) L.up.mb; have := hw9.out; omega)).mono ?_
  rintro e w2 ⟨rfl, hs, hk⟩
  have HS2 := Aside0.mk hs
  have HK2 := Aside0.mk hk
  clear hs hk c0
  go_wp2
  go_ret
  have e1 : L.mkE M = (M.wr L.mkI L.up.mb).syE := by unfold LA.mkE; rw [← HE.out, if_pos rfl]
  have e2 : L.mkM M = (M.wr L.mkI L.up.mb).sy := by unfold LA.mkM; rw [← HE.out, if_pos rfl]
  rw [e1, e2]
  refine ⟨rfl, S1, ⟨HS2.out, (HK2.out.block p HL1.out.lt HL1.out.N).trans HL1.out.B, HL1.out.P, HL1.out.N⟩, fun k hk => by rw [← hsz'.out]; exact HS1.out k hk, HK1.out.then_ HK2.out (fun k hk => ?_)⟩
  rcases HS1.out k hk with h | h
  ·exact .inl (.inl h)
  ·exact .inr (by rw [← hsz'.out]; exact h)
 ·have t0 : (E != 0) = true := by simpa using hz
  have Hz := Aside0.mk hz
  clear hz
  go_wp2
  go_ret
  have e1 : L.mkE M = E := by unfold LA.mkE; rw [← HE.out, if_neg Hz.out]
  have e2 : L.mkM M = M.wr L.mkI L.up.mb := by unfold LA.mkM; rw [← HE.out, if_neg Hz.out]
  rw [e1, e2]
  exact ⟨rfl, S1, HL1.out, fun k hk => by rw [← hsz'.out]; exact HS1.out k hk, HK1.out⟩
end
end Go.Proofs.Ytihmfccpgahmaaa.Wal
