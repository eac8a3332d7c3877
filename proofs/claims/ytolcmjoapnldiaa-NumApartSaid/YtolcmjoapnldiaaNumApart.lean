/- Proved: NumApart answers true: unlike numbers, texts and transactions are laid as unlike bytes, none of which begins another one. No conditions beyond the given statement's. -/
import Derived.Test.YtolcmjoapnldiaaNum
import Derived.Deep.QuietTactic
import Derived.BigQuiet
import Derived.Deep.RegionHeld3
import Derived.Deep.RegionWith
import Derived.RegionTactic
import Derived.Tactics2
import Derived.Test.YtolcmjoapnldiaaQ1
namespace Go.Proofs.Ytolcmjoapnldiaa.NumApart
open Go Go.RowKit Go.Proofs.Ytolcmjoapnldiaa.Q Go.Proofs.YtolcmjoapnldiaaW.PrintWords Go.Proofs.YtolcmjoapnldiaaW.PrintLast Go.Proofs.Ytolcmjoapnldiaa.Leb Go.Proofs.Ytolcmjoapnldiaa.Str Go.Proofs.Ytolcmjoapnldiaa.Num

set_option linter.unusedVariables false
set_option linter.unusedSimpArgs false

def beginsB (x y : List Int) : Bool := decide (x.length ≤ y.length) && ((strOfNums (y.take x.length)).toList == (strOfNums x).toList)

theorem begins_ok (A1 A2 : Option Addr) (c1 c2 : Nat) (x y : List Int) (w : World) (h2 : y.length ≤ c2) (C1 : Kd.C (Kd.int .u8) w A1 x.length x) (C2 : Kd.C (Kd.int .u8) w A2 y.length y) :
    Calls Try.prog 17 #[.slice A1 x.length c1, .slice A2 y.length c2] w fun e w' => e = .returned (.bool (beginsB x y)) ∧ ∃ n, w' = w.drewN n := by
  have hl1 := C1.2.1
  have hl2 := C2.2.1
  by_cases h : x.length ≤ y.length
  · have t1 : decide (x.length ≤ y.length) = true := decide_eq_true h
    have t2 : decide ((x.length : Int) ≤ (y.length : Int)) = true := decide_eq_true (by omega)
    have hxc : x.length ≤ c2 := Nat.le_trans h h2
    have v1 : ∀ n, (convert 24 9 (.slice A2 x.length c2)).run Try.prog (w.drewN n) = .ok (.string (strOfNums (y.take x.length))) (w.drewN n) := fun n => conv_take (w0 := w) C2 (pw_below_drewN (Below.refl _ _) n) c2 h
    have v2 : ∀ n, (convert 24 9 (.slice A1 x.length c1)).run Try.prog (w.drewN n) = .ok (.string (strOfNums x)) (w.drewN n) := fun n => by
      have := conv_take (w0 := w) C1 (pw_below_drewN (Below.refl _ _) n) c1 (Nat.le_refl _)
      rw [List.take_length] at this
      exact this
    have hb : beginsB x y = ((strOfNums (y.take x.length)).toList == (strOfNums x).toList) := by unfold beginsB; rw [decide_eq_true h]; rfl
    rw [hb]
    clear hb C1 C2
    go_enter Try.func17, Try.ntmps17
    go_wp2
    go_quiet (fail)
    go_wp2
    go_ret
    exact ⟨rfl, _, rfl⟩
  · have t1 : decide (x.length ≤ y.length) = false := decide_eq_false h
    have t2 : decide ((x.length : Int) ≤ (y.length : Int)) = false := decide_eq_false (by omega)
    have hb : beginsB x y = false := by unfold beginsB; rw [decide_eq_false h]; rfl
    rw [hb]
    clear hb C1 C2 h
    go_enter Try.func17, Try.ntmps17
    go_wp2
    go_quiet (fail)
    go_wp2
    go_ret
    exact ⟨rfl, _, rfl⟩

theorem beginsB_eq {x y : List Int} (hx : Byt x) (hy : Byt y) : beginsB x y = decide (x.length ≤ y.length ∧ y.take x.length = x) := by
  unfold beginsB
  by_cases h : x.length ≤ y.length
  · rw [decide_eq_true h, Bool.true_and, Bool.eq_iff_iff, beq_iff_eq, decide_eq_true_eq, toList_str (hy.take _) hx]
    exact ⟨fun e => ⟨h, e⟩, fun e => e.2⟩
  · rw [decide_eq_false h, Bool.false_and, decide_eq_false (fun e => h e.1)]

/-- Where laying tells things apart whatever stands behind, one begins the other just where they are one. -/
theorem begins_inj {α : Type} (f : α → List Int) (hf : ∀ a, Byt (f a)) (hi : ∀ a b s t, f a ++ s = f b ++ t → a = b) (a b : α) : beginsB (f a) (f b) = true ↔ a = b := by
  rw [beginsB_eq (hf a) (hf b), decide_eq_true_eq]
  constructor
  · rintro ⟨_, h⟩
    have e : f a ++ (f b).drop (f a).length = f b ++ [] := by
      rw [List.append_nil]
      conv => lhs; lhs; rw [← h]
      exact List.take_append_drop _ _
    exact hi a b _ _ e
  · rintro rfl
    exact ⟨Nat.le_refl _, List.take_length⟩

theorem begins_put (a b : Nat) : beginsB (leb a) (leb b) = true ↔ a = b :=
  begins_inj leb leb_byte (fun a b s t h => (leb_inj a b s t h).1) a b

theorem begins_text (a b : ByteArray) : beginsB (textN a) (textN b) = true ↔ a = b :=
  begins_inj textN (fun s => Byt.append (leb_byte _) (byt_str s)) (fun a b s t h => by
    unfold textN at h
    rw [List.append_assoc, List.append_assoc] at h
    obtain ⟨h1, h2⟩ := leb_inj _ _ _ _ h
    have h3 := List.append_inj_left h2 (by rw [bytesOf_length, bytesOf_length, h1])
    exact inj h3) a b

theorem wrap_inj {a b : Int} (ha : -9223372036854775808 ≤ a ∧ a ≤ 9223372036854775807) (hb : -9223372036854775808 ≤ b ∧ b ≤ 9223372036854775807) (h : IntKind.u64.wrap a = IntKind.u64.wrap b) : a = b := by
  simp [IntKind.wrap, IntKind.bits, IntKind.signed] at h
  omega

theorem begins_tid (m n m' n' : Int) (h0 : 0 ≤ m) (h0' : 0 ≤ m') (hn : -9223372036854775808 ≤ n ∧ n ≤ 9223372036854775807) (hn' : -9223372036854775808 ≤ n' ∧ n' ≤ 9223372036854775807) :
    beginsB (tidN m n) (tidN m' n') = true ↔ m = m' ∧ n = n' := by
  have key : ∀ s t, tidN m n ++ s = tidN m' n' ++ t → m = m' ∧ n = n' := by
    intro s t h
    unfold tidN at h
    rw [List.append_assoc, List.append_assoc] at h
    obtain ⟨h1, h2⟩ := leb_inj _ _ _ _ h
    obtain ⟨h3, _⟩ := leb_inj _ _ _ _ h2
    have r1 := wrap_u64_range n
    have r2 := wrap_u64_range n'
    exact ⟨by omega, wrap_inj hn hn' (by omega)⟩
  have by1 : Byt (tidN m n) := Byt.append (leb_byte _) (leb_byte _)
  have by2 : Byt (tidN m' n') := Byt.append (leb_byte _) (leb_byte _)
  rw [beginsB_eq by1 by2, decide_eq_true_eq]
  constructor
  · rintro ⟨_, h⟩
    have e : tidN m n ++ (tidN m' n').drop (tidN m n).length = tidN m' n' ++ [] := by
      rw [List.append_nil]
      conv => lhs; lhs; rw [← h]
      exact List.take_append_drop _ _
    exact key _ _ e
  · rintro ⟨rfl, rfl⟩
    exact ⟨Nat.le_refl _, List.take_length⟩

theorem begins_at (r : Bool) {A1 A2 : Option Addr} {c1 c2 : Nat} {x y : List Int} {w : World} (h2 : y.length ≤ c2) (C1 : Kd.C (Kd.int .u8) w A1 x.length x) (C2 : Kd.C (Kd.int .u8) w A2 y.length y) (hr : beginsB x y = r) :
    Calls Try.prog 17 #[.slice A1 x.length c1, .slice A2 y.length c2] w fun e w' => e = .returned (.bool r) ∧ ∃ n, w' = w.drewN n := hr ▸ begins_ok A1 A2 c1 c2 x y w h2 C1 C2

structure Boxes (m n m' n' : Int) (k : Nat) (W : World) : Prop where
  lt : k + 2 ≤ W.heap.size
  d1 : W.cell? ⟨k, 0, none⟩ = some (.int .u64 m)
  d2 : W.cell? ⟨k, 1, none⟩ = some (.int .i64 n)
  d3 : W.cell? ⟨k + 1, 0, none⟩ = some (.int .u64 m')
  d4 : W.cell? ⟨k + 1, 1, none⟩ = some (.int .i64 n')

theorem Boxes.below {m n m' n' : Int} {k : Nat} {W W1 : World} (h : Boxes m n m' n' k W) (hb : Below W.heap.size W W1) : Boxes m n m' n' k W1 := by
  obtain ⟨lt, d1, d2, d3, d4⟩ := h
  have := hb.size
  exact ⟨by omega, by rw [hb.cell (p := ⟨k, 0, none⟩) (by simp; omega)]; exact d1, by rw [hb.cell (p := ⟨k, 1, none⟩) (by simp; omega)]; exact d2,
    by rw [hb.cell (p := ⟨k + 1, 0, none⟩) (by simp; omega)]; exact d3, by rw [hb.cell (p := ⟨k + 1, 1, none⟩) (by simp; omega)]; exact d4⟩

theorem Boxes.new (m n m' n' : Int) (w : World) : Boxes m n m' n' w.heap.size ((w.alloc (.cells #[.int .u64 m, .int .i64 n] 28)).alloc (.cells #[.int .u64 m', .int .i64 n'] 28)) := by
  have b1 : ((w.alloc (.cells #[.int .u64 m, .int .i64 n] 28)).alloc (.cells #[.int .u64 m', .int .i64 n'] 28)).heap[w.heap.size]? = some (.cells #[.int .u64 m, .int .i64 n] 28 (0, 0)) := blk_alloc (blk_new w _) _
  have b2 : ((w.alloc (.cells #[.int .u64 m, .int .i64 n] 28)).alloc (.cells #[.int .u64 m', .int .i64 n'] 28)).heap[w.heap.size + 1]? = some (.cells #[.int .u64 m', .int .i64 n'] 28 (0, 0)) := by
    have := blk_new (w.alloc (.cells #[.int .u64 m, .int .i64 n] 28)) (.cells #[.int .u64 m', .int .i64 n'] 28)
    simpa using this
  exact ⟨by simp, (blk_cell b1 0).trans rfl, (blk_cell b1 1).trans rfl, (blk_cell b2 0).trans rfl, (blk_cell b2 1).trans rfl⟩

def apart6.T6 : Bool × List (List Nat × List Nat) := (true, [([], []), ([], []), ([1], [1]), ([], []), ([3, 2], [3]), ([0, 2, 4, 4], [0, 2, 4]), ([], []), ([], []), ([6, 7], [6, 7]), ([5, 8], [5, 8]), ([9, 5], [9]), ([10], [10]), ([10], [10]), ([12, 10, 10], [10, 12]), ([10], [10]), ([14, 13, 10], [10, 14]), ([11, 13, 15, 15, 10], [10, 11, 13, 15]), ([10], [10]), ([10], [10]), ([17, 18, 10], [10, 17, 18]), ([16, 19, 10], [10, 16, 19]), ([10, 20], [10, 20]), ([21, 16], [21]), ([22], [22]), ([22], [22]), ([24, 22, 22], [22, 24]), ([22], [22]), ([26, 25, 22], [22, 26]), ([23, 25, 27, 27, 22], [22, 23, 25, 27]), ([22], [22]), ([22], [22]), ([29, 30, 22], [22, 29, 30]), ([28, 31, 22], [22, 28, 31]), ([22, 32], [22, 32]), ([33, 28, 0, 1, 2, 3, 4, 5, 6, 7, 8, 9, 10, 11, 12, 13, 14, 15, 16, 17, 18, 19, 20, 21, 22, 23, 24, 25, 26, 27, 28, 29, 30, 31, 32, 33], [33])])
def apart6.B6 : List Nat := [0, 0, 2, 0, 14, 31, 0, 0, 192, 511, 1023, 2047, 2047, 6143, 2047, 30719, 65535, 2047, 2047, 395263, 1048575, 2097151, 4194303, 8388607, 8388607, 25165823, 8388607, 125829119, 268435455, 8388607, 8388607, 1619001343, 4294967295, 8589934591, 17179869183]
theorem apart6.tab6 : rtab .any (opsOf Try.f4 6) = apart6.T6 := by kernel_rfl
theorem apart6.bits6 : waitsOk apart6.T6.2 apart6.B6 = true := by kernel_rfl
attribute [local go_sem high] eqA28
set_option maxHeartbeats 8000000 in
set_option maxRecDepth 100000 in
theorem law_small (xa xb : Nat) (s t : ByteArray) (m n m' n' : Int) (q1 q2 q3 : Bool) (w : World) (hxa : Aside0 (xa < 18446744073709551616)) (hxb : Aside0 (xb < 18446744073709551616)) (h0 : Aside0 (0 ≤ m)) (h1 : Aside0 (m < 18446744073709551616)) (h0' : Aside0 (0 ≤ m')) (h1' : Aside0 (m' < 18446744073709551616))
    (hs : s.size ≤ 200) (ht : t.size ≤ 200) (e1 : ((xa : Int) == (xb : Int)) = q1) (e2 : (s.toList == t.toList) = q2) (e3 : (m == m' && (n == n')) = q3)
    (g1 : Aside0 (beginsB (leb xa) (leb xb) = q1)) (g2 : Aside0 (beginsB (textN s) (textN t) = q2)) (g3 : Aside0 (beginsB (tidN m n) (tidN m' n') = q3)) :
    Calls Try.prog 4 #[.int .u64 xa, .int .u64 xb, .string s, .string t, .agg #[.int .u64 m, .int .i64 n], .agg #[.int .u64 m', .int .i64 n']] w fun e w' => e = .returned (.bool true) ∧ Below w.heap.size w w' := by
  have k1 : decide ((200 : Int) < (s.size : Int)) = false := decide_eq_false (by omega)
  have k2 : decide ((200 : Int) < (t.size : Int)) = false := decide_eq_false (by omega)
  have hs2 := Aside0.mk hs
  have ht2 := Aside0.mk ht
  clear hs ht
  go_enter Try.func4, Try.ntmps4
  go_wp2_with (go_at_call 15; refine (head_ok _).mono ?_; rintro e w1 ⟨rfl, hb1⟩; have HB := Aside0.mk (below_step (below_alloc (below_alloc (Below.refl _ _) _) _) hb1); have BX := Aside0.mk ((Boxes.new m n m' n' w).below hb1); obtain ⟨_, d1, d2, d3, d4⟩ := BX.out; clear hb1)
  refine start_ (n := 35) (S := fun w' => True) (ds := []) #[false, false, false, false, false, false, false, false, false, false, false, false, false, false, false, false, false, false, false, false, false, false, false, false, false, false, false, false, false, false, false, false, false, false, false] (by kernel_rfl) rfl rfl trivial (fun hHeld => ?_)
  refine with_tabW apart6.tab6 apart6.bits6 (fun HT_ HW_ => ?_)
  have n0 := Aside0.mk (below_drew HB.out)
  have n1 := Aside0.mk (BX.out.below (below_drew (Below.refl _ _)))
  clear HB BX d1 d2 d3 d4
  generalize w1.drew = wd at n0 n1 hHeld ⊢
  have HB := n0
  have BX := n1
  clear n0 n1 hHeld
  refine inv_at [0, 1, 2, 3, 4, 5, 6, 7, 8, 9, 10, 11, 12, 13, 14, 15, 16, 17, 18, 19, 20, 21, 22, 23, 24, 25, 26, 27, 28, 29, 30, 31, 32, 33, 34] (fun a0_ b a w' => ∃ (A1 : Option Addr) (c1 : Nat) (A2 : Option Addr) (c2 : Nat) (A3 : Option Addr) (c3 : Nat) (A4 : Option Addr) (c4 : Nat) (A5 : Option Addr) (c5 : Nat) (A6 : Option Addr) (c6 : Nat) (m2_ : Value) (m4_ : Value) (m13_ : Value) (m15_ : Value) (m25_ : Value) (m27_ : Value), a = putSel a0_ b [(0, 24, .func (Fn.func 17) #[] #[]), (1, 25, .int .u64 (xa : Int)), (2, 26, m2_), (3, 27, .int .u64 (xb : Int)), (4, 28, m4_), (5, 29, .bool q1), (6, 30, .int .u64 (xa : Int)), (7, 31, .int .u64 (xb : Int)), (8, 32, .bool q1), (9, 33, .bool true), (10, 34, .bool true), (11, 35, .func (Fn.func 17) #[] #[]), (12, 36, .string s), (13, 37, m13_), (14, 38, .string t), (15, 39, m15_), (16, 40, .bool q2), (17, 41, .string s), (18, 42, .string t), (19, 43, .bool q2), (20, 44, .bool true), (21, 45, .bool true), (22, 46, .bool true), (23, 47, .func (Fn.func 17) #[] #[]), (24, 48, .agg #[.int .u64 m, .int .i64 n]), (25, 49, m25_), (26, 50, .agg #[.int .u64 m', .int .i64 n']), (27, 51, m27_), (28, 52, .bool q3), (29, 53, .agg #[.int .u64 m, .int .i64 n]), (30, 54, .agg #[.int .u64 m', .int .i64 n']), (31, 55, .bool q3), (32, 56, .bool true), (33, 57, .bool true), (34, 12, .bool true)] ∧ (Below w.heap.size w w') ∧ (Boxes m n m' n' w.heap.size w') ∧ (b 2 = true → Cs w' A1 c1 (leb xa)) ∧ (b 4 = true → Cs w' A2 c2 (leb xb)) ∧ (b 13 = true → Cs w' A3 c3 (textN s)) ∧ (b 15 = true → Cs w' A4 c4 (textN t)) ∧ (b 25 = true → Cs w' A5 c5 (tidN m n)) ∧ (b 27 = true → Cs w' A6 c6 (tidN m' n')) ∧ (b 2 = true → (m2_ : Value) = .slice A1 (leb xa).length c1) ∧ (b 4 = true → (m4_ : Value) = .slice A2 (leb xb).length c2) ∧ (b 13 = true → (m13_ : Value) = .slice A3 (textN s).length c3) ∧ (b 15 = true → (m15_ : Value) = .slice A4 (textN t).length c4) ∧ (b 25 = true → (m25_ : Value) = .slice A5 (tidN m n).length c5) ∧ (b 27 = true → (m27_ : Value) = .slice A6 (tidN m' n').length c6)) HT_.out HW_.out (by kernel_rfl) (by kernel_rfl) ?_ ?_ ?_
  · exact ⟨none, 0, none, 0, none, 0, none, 0, none, 0, none, 0, .bool false, .bool false, .bool false, .bool false, .bool false, .bool false, by simp only [putSel, Bool.false_eq_true, if_false], HB.out, BX.out, fun h_ => absurd h_ (by decide), fun h_ => absurd h_ (by decide), fun h_ => absurd h_ (by decide), fun h_ => absurd h_ (by decide), fun h_ => absurd h_ (by decide), fun h_ => absurd h_ (by decide), fun h_ => absurd h_ (by decide), fun h_ => absurd h_ (by decide), fun h_ => absurd h_ (by decide), fun h_ => absurd h_ (by decide), fun h_ => absurd h_ (by decide), fun h_ => absurd h_ (by decide)⟩
  · skip
    clear BX HB
    refine steps_cons ?_ ?_
    · rintro b a w' ⟨A1, c1, A2, c2, A3, c3, A4, c4, A5, c5, A6, c6, m2_, m4_, m13_, m15_, m25_, m27_, ha, Q_HB, Q_BX, Q_P1, Q_P2, Q_P3, Q_P4, Q_P5, Q_P6, Q_X2_, Q_X4_, Q_X13_, Q_X15_, Q_X25_, Q_X27_⟩ hb_ hon hoff
      refine ⟨_, rfl, fun K hK => ?_⟩
      have e13 : a.tmps[13]? = some (.func (Fn.func 17) #[] #[]) := by rw [ha]; exact (putSel_off rfl).trans rfl
      replace ha := Aside0.mk ha
      have HB := Aside0.mk Q_HB
      have BX := Aside0.mk Q_BX
      refine value_ (w1 := w') (v := .func (Fn.func 17) #[] #[]) (by rfl) rfl ?_ ?_
      · go_simp
        (try simp only [i64_w])
        try rfl
      refine hK.out _ _ ⟨A1, c1, A2, c2, A3, c3, A4, c4, A5, c5, A6, c6, m2_, m4_, m13_, m15_, m25_, m27_, (by rw [ha.out]; exact putSel_upk 0 hb_ rfl rfl rfl), Q_HB, Q_BX, Q_P1, Q_P2, fun h0_ => absurd ((hoff 13 (by kernel_rfl)).symm.trans h0_) (by decide), fun h0_ => absurd ((hoff 15 (by kernel_rfl)).symm.trans h0_) (by decide), fun h0_ => absurd ((hoff 25 (by kernel_rfl)).symm.trans h0_) (by decide), fun h0_ => absurd ((hoff 27 (by kernel_rfl)).symm.trans h0_) (by decide), Q_X2_, Q_X4_, fun h0_ => absurd ((hoff 13 (by kernel_rfl)).symm.trans h0_) (by decide), fun h0_ => absurd ((hoff 15 (by kernel_rfl)).symm.trans h0_) (by decide), fun h0_ => absurd ((hoff 25 (by kernel_rfl)).symm.trans h0_) (by decide), fun h0_ => absurd ((hoff 27 (by kernel_rfl)).symm.trans h0_) (by decide)⟩
    refine steps_cons ?_ ?_
    · rintro b a w' ⟨A1, c1, A2, c2, A3, c3, A4, c4, A5, c5, A6, c6, m2_, m4_, m13_, m15_, m25_, m27_, ha, Q_HB, Q_BX, Q_P1, Q_P2, Q_P3, Q_P4, Q_P5, Q_P6, Q_X2_, Q_X4_, Q_X13_, Q_X15_, Q_X25_, Q_X27_⟩ hb_ hon hoff
      refine ⟨_, rfl, fun K hK => ?_⟩
      have e0 : a.tmps[0]? = some (.int .u64 (xa : Int)) := by rw [ha]; exact (putSel_off rfl).trans rfl
      replace ha := Aside0.mk ha
      have HB := Aside0.mk Q_HB
      have BX := Aside0.mk Q_BX
      refine value_ (w1 := w') (v := .int .u64 (xa : Int)) (by rfl) rfl ?_ ?_
      · go_simp
        (try simp only [i64_w])
        try rfl
      refine hK.out _ _ ⟨A1, c1, A2, c2, A3, c3, A4, c4, A5, c5, A6, c6, m2_, m4_, m13_, m15_, m25_, m27_, (by rw [ha.out]; exact putSel_upk 1 hb_ rfl rfl rfl), Q_HB, Q_BX, fun h0_ => absurd ((hoff 2 (by kernel_rfl)).symm.trans h0_) (by decide), fun h0_ => absurd ((hoff 4 (by kernel_rfl)).symm.trans h0_) (by decide), fun h0_ => absurd ((hoff 13 (by kernel_rfl)).symm.trans h0_) (by decide), fun h0_ => absurd ((hoff 15 (by kernel_rfl)).symm.trans h0_) (by decide), fun h0_ => absurd ((hoff 25 (by kernel_rfl)).symm.trans h0_) (by decide), fun h0_ => absurd ((hoff 27 (by kernel_rfl)).symm.trans h0_) (by decide), fun h0_ => absurd ((hoff 2 (by kernel_rfl)).symm.trans h0_) (by decide), fun h0_ => absurd ((hoff 4 (by kernel_rfl)).symm.trans h0_) (by decide), fun h0_ => absurd ((hoff 13 (by kernel_rfl)).symm.trans h0_) (by decide), fun h0_ => absurd ((hoff 15 (by kernel_rfl)).symm.trans h0_) (by decide), fun h0_ => absurd ((hoff 25 (by kernel_rfl)).symm.trans h0_) (by decide), fun h0_ => absurd ((hoff 27 (by kernel_rfl)).symm.trans h0_) (by decide)⟩
    refine steps_cons ?_ ?_
    · rintro b a w' ⟨A1, c1, A2, c2, A3, c3, A4, c4, A5, c5, A6, c6, m2_, m4_, m13_, m15_, m25_, m27_, ha, Q_HB, Q_BX, Q_P1, Q_P2, Q_P3, Q_P4, Q_P5, Q_P6, Q_X2_, Q_X4_, Q_X13_, Q_X15_, Q_X25_, Q_X27_⟩ hb_ hon hoff
      refine ⟨_, rfl, fun K hK => ?_⟩
      have e25 : a.tmps[25]? = some (.int .u64 (xa : Int)) := by rw [ha]; exact putSel_on (e := (1, 25, .int .u64 (xa : Int))) 1 rfl rfl (hon 1 (by kernel_rfl)) rfl
      replace ha := Aside0.mk ha
      have HB := Aside0.mk Q_HB
      have BX := Aside0.mk Q_BX
      refine goes_ Try.func16 (by kernel_rfl) rfl #[.slice none 0 0, .int .u64 (xa : Int)] (by rfl) rfl rfl (by first | (simp only [List.map_toArray, List.map_cons, List.map_nil, Act.eval, Array.getD_eq_getD_getElem?, Option.getD_some, e25]; done) | (simp only [List.map_toArray, List.map_cons, List.map_nil, Act.eval, Array.getD_eq_getD_getElem?, Option.getD_some, e25]; rfl)) ?_
      refine (put_nil xa hxa.out _).mono ?_
      rintro e_ wn_ ⟨An_, cn_, rfl, hp_, hB_⟩
      refine ⟨_, rfl, ?_⟩
      refine hK.out _ _ ⟨An_, cn_, A2, c2, A3, c3, A4, c4, A5, c5, A6, c6, (.slice An_ (leb xa).length cn_), m4_, m13_, m15_, m25_, m27_, (by rw [ha.out]; exact putSel_upk 2 hb_ rfl rfl rfl), (below_step HB.out hB_), (BX.out.below hB_), fun _ => hp_, fun h0_ => absurd ((hoff 4 (by kernel_rfl)).symm.trans h0_) (by decide), fun h0_ => absurd ((hoff 13 (by kernel_rfl)).symm.trans h0_) (by decide), fun h0_ => absurd ((hoff 15 (by kernel_rfl)).symm.trans h0_) (by decide), fun h0_ => absurd ((hoff 25 (by kernel_rfl)).symm.trans h0_) (by decide), fun h0_ => absurd ((hoff 27 (by kernel_rfl)).symm.trans h0_) (by decide), fun _ => rfl, fun h0_ => absurd ((hoff 4 (by kernel_rfl)).symm.trans h0_) (by decide), fun h0_ => absurd ((hoff 13 (by kernel_rfl)).symm.trans h0_) (by decide), fun h0_ => absurd ((hoff 15 (by kernel_rfl)).symm.trans h0_) (by decide), fun h0_ => absurd ((hoff 25 (by kernel_rfl)).symm.trans h0_) (by decide), fun h0_ => absurd ((hoff 27 (by kernel_rfl)).symm.trans h0_) (by decide)⟩
    refine steps_cons ?_ ?_
    · rintro b a w' ⟨A1, c1, A2, c2, A3, c3, A4, c4, A5, c5, A6, c6, m2_, m4_, m13_, m15_, m25_, m27_, ha, Q_HB, Q_BX, Q_P1, Q_P2, Q_P3, Q_P4, Q_P5, Q_P6, Q_X2_, Q_X4_, Q_X13_, Q_X15_, Q_X25_, Q_X27_⟩ hb_ hon hoff
      refine ⟨_, rfl, fun K hK => ?_⟩
      have e1 : a.tmps[1]? = some (.int .u64 (xb : Int)) := by rw [ha]; exact (putSel_off rfl).trans rfl
      replace ha := Aside0.mk ha
      have HB := Aside0.mk Q_HB
      have BX := Aside0.mk Q_BX
      refine value_ (w1 := w') (v := .int .u64 (xb : Int)) (by rfl) rfl ?_ ?_
      · go_simp
        (try simp only [i64_w])
        try rfl
      refine hK.out _ _ ⟨A1, c1, A2, c2, A3, c3, A4, c4, A5, c5, A6, c6, m2_, m4_, m13_, m15_, m25_, m27_, (by rw [ha.out]; exact putSel_upk 3 hb_ rfl rfl rfl), Q_HB, Q_BX, Q_P1, fun h0_ => absurd ((hoff 4 (by kernel_rfl)).symm.trans h0_) (by decide), fun h0_ => absurd ((hoff 13 (by kernel_rfl)).symm.trans h0_) (by decide), fun h0_ => absurd ((hoff 15 (by kernel_rfl)).symm.trans h0_) (by decide), fun h0_ => absurd ((hoff 25 (by kernel_rfl)).symm.trans h0_) (by decide), fun h0_ => absurd ((hoff 27 (by kernel_rfl)).symm.trans h0_) (by decide), Q_X2_, fun h0_ => absurd ((hoff 4 (by kernel_rfl)).symm.trans h0_) (by decide), fun h0_ => absurd ((hoff 13 (by kernel_rfl)).symm.trans h0_) (by decide), fun h0_ => absurd ((hoff 15 (by kernel_rfl)).symm.trans h0_) (by decide), fun h0_ => absurd ((hoff 25 (by kernel_rfl)).symm.trans h0_) (by decide), fun h0_ => absurd ((hoff 27 (by kernel_rfl)).symm.trans h0_) (by decide)⟩
    refine steps_cons ?_ ?_
    · rintro b a w' ⟨A1, c1, A2, c2, A3, c3, A4, c4, A5, c5, A6, c6, m2_, m4_, m13_, m15_, m25_, m27_, ha, Q_HB, Q_BX, Q_P1, Q_P2, Q_P3, Q_P4, Q_P5, Q_P6, Q_X2_, Q_X4_, Q_X13_, Q_X15_, Q_X25_, Q_X27_⟩ hb_ hon hoff
      refine ⟨_, rfl, fun K hK => ?_⟩
      have e27 : a.tmps[27]? = some (.int .u64 (xb : Int)) := by rw [ha]; exact putSel_on (e := (3, 27, .int .u64 (xb : Int))) 3 rfl rfl (hon 3 (by kernel_rfl)) rfl
      replace ha := Aside0.mk ha
      have HB := Aside0.mk Q_HB
      have BX := Aside0.mk Q_BX
      have P1 := Aside0.mk (Q_P1 (hon 2 (by kernel_rfl)))
      refine goes_ Try.func16 (by kernel_rfl) rfl #[.slice none 0 0, .int .u64 (xb : Int)] (by rfl) rfl rfl (by first | (simp only [List.map_toArray, List.map_cons, List.map_nil, Act.eval, Array.getD_eq_getD_getElem?, Option.getD_some, e27]; done) | (simp only [List.map_toArray, List.map_cons, List.map_nil, Act.eval, Array.getD_eq_getD_getElem?, Option.getD_some, e27]; rfl)) ?_
      refine (put_nil xb hxb.out _).mono ?_
      rintro e_ wn_ ⟨An_, cn_, rfl, hp_, hB_⟩
      refine ⟨_, rfl, ?_⟩
      refine hK.out _ _ ⟨A1, c1, An_, cn_, A3, c3, A4, c4, A5, c5, A6, c6, m2_, (.slice An_ (leb xb).length cn_), m13_, m15_, m25_, m27_, (by rw [ha.out]; exact putSel_upk 4 hb_ rfl rfl rfl), (below_step HB.out hB_), (BX.out.below hB_), fun _ => (P1.out.step hB_), fun _ => hp_, fun h0_ => absurd ((hoff 13 (by kernel_rfl)).symm.trans h0_) (by decide), fun h0_ => absurd ((hoff 15 (by kernel_rfl)).symm.trans h0_) (by decide), fun h0_ => absurd ((hoff 25 (by kernel_rfl)).symm.trans h0_) (by decide), fun h0_ => absurd ((hoff 27 (by kernel_rfl)).symm.trans h0_) (by decide), Q_X2_, fun _ => rfl, fun h0_ => absurd ((hoff 13 (by kernel_rfl)).symm.trans h0_) (by decide), fun h0_ => absurd ((hoff 15 (by kernel_rfl)).symm.trans h0_) (by decide), fun h0_ => absurd ((hoff 25 (by kernel_rfl)).symm.trans h0_) (by decide), fun h0_ => absurd ((hoff 27 (by kernel_rfl)).symm.trans h0_) (by decide)⟩
    refine steps_cons ?_ ?_
    · rintro b a w' ⟨A1, c1, A2, c2, A3, c3, A4, c4, A5, c5, A6, c6, m2_, m4_, m13_, m15_, m25_, m27_, ha, Q_HB, Q_BX, Q_P1, Q_P2, Q_P3, Q_P4, Q_P5, Q_P6, Q_X2_, Q_X4_, Q_X13_, Q_X15_, Q_X25_, Q_X27_⟩ hb_ hon hoff
      refine ⟨_, rfl, fun K hK => ?_⟩
      have e24 : a.tmps[24]? = some (.func (Fn.func 17) #[] #[]) := by rw [ha]; exact putSel_on (e := (0, 24, .func (Fn.func 17) #[] #[])) 0 rfl rfl (hon 0 (by kernel_rfl)) rfl
      have e26 : a.tmps[26]? = some (m2_) := by rw [ha]; exact putSel_on (e := (2, 26, m2_)) 2 rfl rfl (hon 2 (by kernel_rfl)) rfl
      rw [Q_X2_ (hon 2 (by kernel_rfl))] at e26
      have e28 : a.tmps[28]? = some (m4_) := by rw [ha]; exact putSel_on (e := (4, 28, m4_)) 4 rfl rfl (hon 4 (by kernel_rfl)) rfl
      rw [Q_X4_ (hon 4 (by kernel_rfl))] at e28
      replace ha := Aside0.mk ha
      have HB := Aside0.mk Q_HB
      have BX := Aside0.mk Q_BX
      have P1 := Aside0.mk (Q_P1 (hon 2 (by kernel_rfl)))
      have P2 := Aside0.mk (Q_P2 (hon 4 (by kernel_rfl)))
      refine goesV_ (t := 24) (f := 17) Try.func17 (by kernel_rfl) rfl #[.slice A1 (leb xa).length c1, .slice A2 (leb xb).length c2] (by rfl) rfl rfl e24 (by first | (simp only [List.map_toArray, List.map_cons, List.map_nil, Act.eval, Array.getD_eq_getD_getElem?, Option.getD_some, e24, e26, e28]; done) | (simp only [List.map_toArray, List.map_cons, List.map_nil, Act.eval, Array.getD_eq_getD_getElem?, Option.getD_some, e24, e26, e28]; rfl)) ?_
      refine (begins_at q1 P2.out.le P1.out.C P2.out.C g1.out).mono ?_
      rintro e_ wn_ ⟨rfl, nn_, rfl⟩
      refine ⟨_, rfl, ?_⟩
      refine hK.out _ _ ⟨A1, c1, A2, c2, A3, c3, A4, c4, A5, c5, A6, c6, m2_, m4_, m13_, m15_, m25_, m27_, (by rw [ha.out]; exact putSel_upk 5 hb_ rfl rfl rfl), (pw_below_drewN HB.out nn_), (BX.out.below (drewn _ nn_)), fun _ => (P1.out.step (drewn _ nn_)), fun _ => (P2.out.step (drewn _ nn_)), fun h0_ => absurd ((hoff 13 (by kernel_rfl)).symm.trans h0_) (by decide), fun h0_ => absurd ((hoff 15 (by kernel_rfl)).symm.trans h0_) (by decide), fun h0_ => absurd ((hoff 25 (by kernel_rfl)).symm.trans h0_) (by decide), fun h0_ => absurd ((hoff 27 (by kernel_rfl)).symm.trans h0_) (by decide), Q_X2_, Q_X4_, fun h0_ => absurd ((hoff 13 (by kernel_rfl)).symm.trans h0_) (by decide), fun h0_ => absurd ((hoff 15 (by kernel_rfl)).symm.trans h0_) (by decide), fun h0_ => absurd ((hoff 25 (by kernel_rfl)).symm.trans h0_) (by decide), fun h0_ => absurd ((hoff 27 (by kernel_rfl)).symm.trans h0_) (by decide)⟩
    refine steps_cons ?_ ?_
    · rintro b a w' ⟨A1, c1, A2, c2, A3, c3, A4, c4, A5, c5, A6, c6, m2_, m4_, m13_, m15_, m25_, m27_, ha, Q_HB, Q_BX, Q_P1, Q_P2, Q_P3, Q_P4, Q_P5, Q_P6, Q_X2_, Q_X4_, Q_X13_, Q_X15_, Q_X25_, Q_X27_⟩ hb_ hon hoff
      refine ⟨_, rfl, fun K hK => ?_⟩
      have e0 : a.tmps[0]? = some (.int .u64 (xa : Int)) := by rw [ha]; exact (putSel_off rfl).trans rfl
      replace ha := Aside0.mk ha
      have HB := Aside0.mk Q_HB
      have BX := Aside0.mk Q_BX
      refine value_ (w1 := w') (v := .int .u64 (xa : Int)) (by rfl) rfl ?_ ?_
      · go_simp
        (try simp only [i64_w])
        try rfl
      refine hK.out _ _ ⟨A1, c1, A2, c2, A3, c3, A4, c4, A5, c5, A6, c6, m2_, m4_, m13_, m15_, m25_, m27_, (by rw [ha.out]; exact putSel_upk 6 hb_ rfl rfl rfl), Q_HB, Q_BX, Q_P1, Q_P2, fun h0_ => absurd ((hoff 13 (by kernel_rfl)).symm.trans h0_) (by decide), fun h0_ => absurd ((hoff 15 (by kernel_rfl)).symm.trans h0_) (by decide), fun h0_ => absurd ((hoff 25 (by kernel_rfl)).symm.trans h0_) (by decide), fun h0_ => absurd ((hoff 27 (by kernel_rfl)).symm.trans h0_) (by decide), Q_X2_, Q_X4_, fun h0_ => absurd ((hoff 13 (by kernel_rfl)).symm.trans h0_) (by decide), fun h0_ => absurd ((hoff 15 (by kernel_rfl)).symm.trans h0_) (by decide), fun h0_ => absurd ((hoff 25 (by kernel_rfl)).symm.trans h0_) (by decide), fun h0_ => absurd ((hoff 27 (by kernel_rfl)).symm.trans h0_) (by decide)⟩
    refine steps_cons ?_ ?_
    · rintro b a w' ⟨A1, c1, A2, c2, A3, c3, A4, c4, A5, c5, A6, c6, m2_, m4_, m13_, m15_, m25_, m27_, ha, Q_HB, Q_BX, Q_P1, Q_P2, Q_P3, Q_P4, Q_P5, Q_P6, Q_X2_, Q_X4_, Q_X13_, Q_X15_, Q_X25_, Q_X27_⟩ hb_ hon hoff
      refine ⟨_, rfl, fun K hK => ?_⟩
      have e1 : a.tmps[1]? = some (.int .u64 (xb : Int)) := by rw [ha]; exact (putSel_off rfl).trans rfl
      replace ha := Aside0.mk ha
      have HB := Aside0.mk Q_HB
      have BX := Aside0.mk Q_BX
      refine value_ (w1 := w') (v := .int .u64 (xb : Int)) (by rfl) rfl ?_ ?_
      · go_simp
        (try simp only [i64_w])
        try rfl
      refine hK.out _ _ ⟨A1, c1, A2, c2, A3, c3, A4, c4, A5, c5, A6, c6, m2_, m4_, m13_, m15_, m25_, m27_, (by rw [ha.out]; exact putSel_upk 7 hb_ rfl rfl rfl), Q_HB, Q_BX, Q_P1, Q_P2, fun h0_ => absurd ((hoff 13 (by kernel_rfl)).symm.trans h0_) (by decide), fun h0_ => absurd ((hoff 15 (by kernel_rfl)).symm.trans h0_) (by decide), fun h0_ => absurd ((hoff 25 (by kernel_rfl)).symm.trans h0_) (by decide), fun h0_ => absurd ((hoff 27 (by kernel_rfl)).symm.trans h0_) (by decide), Q_X2_, Q_X4_, fun h0_ => absurd ((hoff 13 (by kernel_rfl)).symm.trans h0_) (by decide), fun h0_ => absurd ((hoff 15 (by kernel_rfl)).symm.trans h0_) (by decide), fun h0_ => absurd ((hoff 25 (by kernel_rfl)).symm.trans h0_) (by decide), fun h0_ => absurd ((hoff 27 (by kernel_rfl)).symm.trans h0_) (by decide)⟩
    refine steps_cons ?_ ?_
    · rintro b a w' ⟨A1, c1, A2, c2, A3, c3, A4, c4, A5, c5, A6, c6, m2_, m4_, m13_, m15_, m25_, m27_, ha, Q_HB, Q_BX, Q_P1, Q_P2, Q_P3, Q_P4, Q_P5, Q_P6, Q_X2_, Q_X4_, Q_X13_, Q_X15_, Q_X25_, Q_X27_⟩ hb_ hon hoff
      refine ⟨_, rfl, fun K hK => ?_⟩
      have e30 : a.tmps[30]? = some (.int .u64 (xa : Int)) := by rw [ha]; exact putSel_on (e := (6, 30, .int .u64 (xa : Int))) 6 rfl rfl (hon 6 (by kernel_rfl)) rfl
      have e31 : a.tmps[31]? = some (.int .u64 (xb : Int)) := by rw [ha]; exact putSel_on (e := (7, 31, .int .u64 (xb : Int))) 7 rfl rfl (hon 7 (by kernel_rfl)) rfl
      replace ha := Aside0.mk ha
      have HB := Aside0.mk Q_HB
      have BX := Aside0.mk Q_BX
      refine value_ (w1 := w') (v := .bool q1) (by rfl) rfl ?_ ?_
      · go_simp
        (try simp only [i64_w])
        try rfl
      refine hK.out _ _ ⟨A1, c1, A2, c2, A3, c3, A4, c4, A5, c5, A6, c6, m2_, m4_, m13_, m15_, m25_, m27_, (by rw [ha.out]; exact putSel_upk 8 hb_ rfl rfl rfl), Q_HB, Q_BX, Q_P1, Q_P2, fun h0_ => absurd ((hoff 13 (by kernel_rfl)).symm.trans h0_) (by decide), fun h0_ => absurd ((hoff 15 (by kernel_rfl)).symm.trans h0_) (by decide), fun h0_ => absurd ((hoff 25 (by kernel_rfl)).symm.trans h0_) (by decide), fun h0_ => absurd ((hoff 27 (by kernel_rfl)).symm.trans h0_) (by decide), Q_X2_, Q_X4_, fun h0_ => absurd ((hoff 13 (by kernel_rfl)).symm.trans h0_) (by decide), fun h0_ => absurd ((hoff 15 (by kernel_rfl)).symm.trans h0_) (by decide), fun h0_ => absurd ((hoff 25 (by kernel_rfl)).symm.trans h0_) (by decide), fun h0_ => absurd ((hoff 27 (by kernel_rfl)).symm.trans h0_) (by decide)⟩
    refine steps_cons ?_ ?_
    · rintro b a w' ⟨A1, c1, A2, c2, A3, c3, A4, c4, A5, c5, A6, c6, m2_, m4_, m13_, m15_, m25_, m27_, ha, Q_HB, Q_BX, Q_P1, Q_P2, Q_P3, Q_P4, Q_P5, Q_P6, Q_X2_, Q_X4_, Q_X13_, Q_X15_, Q_X25_, Q_X27_⟩ hb_ hon hoff
      refine ⟨_, rfl, fun K hK => ?_⟩
      have e29 : a.tmps[29]? = some (.bool q1) := by rw [ha]; exact putSel_on (e := (5, 29, .bool q1)) 5 rfl rfl (hon 5 (by kernel_rfl)) rfl
      have e32 : a.tmps[32]? = some (.bool q1) := by rw [ha]; exact putSel_on (e := (8, 32, .bool q1)) 8 rfl rfl (hon 8 (by kernel_rfl)) rfl
      replace ha := Aside0.mk ha
      have HB := Aside0.mk Q_HB
      have BX := Aside0.mk Q_BX
      have P1 := Aside0.mk (Q_P1 (hon 2 (by kernel_rfl)))
      have P2 := Aside0.mk (Q_P2 (hon 4 (by kernel_rfl)))
      refine value_ (w1 := w') (v := .bool true) (by rfl) rfl ?_ ?_
      · go_simp
        (try simp only [i64_w])
        try rfl
      refine hK.out _ _ ⟨A1, c1, A2, c2, A3, c3, A4, c4, A5, c5, A6, c6, m2_, m4_, m13_, m15_, m25_, m27_, (by rw [ha.out]; exact putSel_upk 9 hb_ rfl rfl rfl), Q_HB, Q_BX, Q_P1, Q_P2, fun h0_ => absurd ((hoff 13 (by kernel_rfl)).symm.trans h0_) (by decide), fun h0_ => absurd ((hoff 15 (by kernel_rfl)).symm.trans h0_) (by decide), fun h0_ => absurd ((hoff 25 (by kernel_rfl)).symm.trans h0_) (by decide), fun h0_ => absurd ((hoff 27 (by kernel_rfl)).symm.trans h0_) (by decide), Q_X2_, Q_X4_, fun h0_ => absurd ((hoff 13 (by kernel_rfl)).symm.trans h0_) (by decide), fun h0_ => absurd ((hoff 15 (by kernel_rfl)).symm.trans h0_) (by decide), fun h0_ => absurd ((hoff 25 (by kernel_rfl)).symm.trans h0_) (by decide), fun h0_ => absurd ((hoff 27 (by kernel_rfl)).symm.trans h0_) (by decide)⟩
    refine steps_cons ?_ ?_
    · rintro b a w' ⟨A1, c1, A2, c2, A3, c3, A4, c4, A5, c5, A6, c6, m2_, m4_, m13_, m15_, m25_, m27_, ha, Q_HB, Q_BX, Q_P1, Q_P2, Q_P3, Q_P4, Q_P5, Q_P6, Q_X2_, Q_X4_, Q_X13_, Q_X15_, Q_X25_, Q_X27_⟩ hb_ hon hoff
      refine ⟨_, rfl, fun K hK => ?_⟩
      have e33 : a.tmps[33]? = some (.bool true) := by rw [ha]; exact putSel_on (e := (9, 33, .bool true)) 9 rfl rfl (hon 9 (by kernel_rfl)) rfl
      replace ha := Aside0.mk ha
      have HB := Aside0.mk Q_HB
      have BX := Aside0.mk Q_BX
      have P1 := Aside0.mk (Q_P1 (hon 2 (by kernel_rfl)))
      have P2 := Aside0.mk (Q_P2 (hon 4 (by kernel_rfl)))
      refine value_ (w1 := w') (v := .bool true) (by rfl) rfl ?_ ?_
      · go_simp
        (try simp only [i64_w])
        try rfl
      refine hK.out _ _ ⟨A1, c1, A2, c2, A3, c3, A4, c4, A5, c5, A6, c6, m2_, m4_, m13_, m15_, m25_, m27_, (by rw [ha.out]; exact putSel_upk 10 hb_ rfl rfl rfl), Q_HB, Q_BX, Q_P1, Q_P2, fun h0_ => absurd ((hoff 13 (by kernel_rfl)).symm.trans h0_) (by decide), fun h0_ => absurd ((hoff 15 (by kernel_rfl)).symm.trans h0_) (by decide), fun h0_ => absurd ((hoff 25 (by kernel_rfl)).symm.trans h0_) (by decide), fun h0_ => absurd ((hoff 27 (by kernel_rfl)).symm.trans h0_) (by decide), Q_X2_, Q_X4_, fun h0_ => absurd ((hoff 13 (by kernel_rfl)).symm.trans h0_) (by decide), fun h0_ => absurd ((hoff 15 (by kernel_rfl)).symm.trans h0_) (by decide), fun h0_ => absurd ((hoff 25 (by kernel_rfl)).symm.trans h0_) (by decide), fun h0_ => absurd ((hoff 27 (by kernel_rfl)).symm.trans h0_) (by decide)⟩
    refine steps_cons ?_ ?_
    · rintro b a w' ⟨A1, c1, A2, c2, A3, c3, A4, c4, A5, c5, A6, c6, m2_, m4_, m13_, m15_, m25_, m27_, ha, Q_HB, Q_BX, Q_P1, Q_P2, Q_P3, Q_P4, Q_P5, Q_P6, Q_X2_, Q_X4_, Q_X13_, Q_X15_, Q_X25_, Q_X27_⟩ hb_ hon hoff
      refine ⟨_, rfl, fun K hK => ?_⟩
      have e13 : a.tmps[13]? = some (.func (Fn.func 17) #[] #[]) := by rw [ha]; exact (putSel_off rfl).trans rfl
      have e34 : a.tmps[34]? = some (.bool true) := by rw [ha]; exact putSel_on (e := (10, 34, .bool true)) 10 rfl rfl (hon 10 (by kernel_rfl)) rfl
      replace ha := Aside0.mk ha
      have HB := Aside0.mk Q_HB
      have BX := Aside0.mk Q_BX
      have P1 := Aside0.mk (Q_P1 (hon 2 (by kernel_rfl)))
      have P2 := Aside0.mk (Q_P2 (hon 4 (by kernel_rfl)))
      refine value_ (w1 := w') (v := .func (Fn.func 17) #[] #[]) (wanted_on rfl rfl rfl (e34.trans (by first | rfl | (simp [*]; done)))) rfl ?_ ?_
      · go_simp
        (try simp only [i64_w])
        try rfl
      refine hK.out _ _ ⟨A1, c1, A2, c2, A3, c3, A4, c4, A5, c5, A6, c6, m2_, m4_, m13_, m15_, m25_, m27_, (by rw [ha.out]; exact putSel_upk 11 hb_ rfl rfl rfl), Q_HB, Q_BX, Q_P1, Q_P2, Q_P3, Q_P4, fun h0_ => absurd ((hoff 25 (by kernel_rfl)).symm.trans h0_) (by decide), fun h0_ => absurd ((hoff 27 (by kernel_rfl)).symm.trans h0_) (by decide), Q_X2_, Q_X4_, Q_X13_, Q_X15_, fun h0_ => absurd ((hoff 25 (by kernel_rfl)).symm.trans h0_) (by decide), fun h0_ => absurd ((hoff 27 (by kernel_rfl)).symm.trans h0_) (by decide)⟩
    refine steps_cons ?_ ?_
    · rintro b a w' ⟨A1, c1, A2, c2, A3, c3, A4, c4, A5, c5, A6, c6, m2_, m4_, m13_, m15_, m25_, m27_, ha, Q_HB, Q_BX, Q_P1, Q_P2, Q_P3, Q_P4, Q_P5, Q_P6, Q_X2_, Q_X4_, Q_X13_, Q_X15_, Q_X25_, Q_X27_⟩ hb_ hon hoff
      refine ⟨_, rfl, fun K hK => ?_⟩
      have e2 : a.tmps[2]? = some (.string s) := by rw [ha]; exact (putSel_off rfl).trans rfl
      have e34 : a.tmps[34]? = some (.bool true) := by rw [ha]; exact putSel_on (e := (10, 34, .bool true)) 10 rfl rfl (hon 10 (by kernel_rfl)) rfl
      replace ha := Aside0.mk ha
      have HB := Aside0.mk Q_HB
      have BX := Aside0.mk Q_BX
      have P1 := Aside0.mk (Q_P1 (hon 2 (by kernel_rfl)))
      have P2 := Aside0.mk (Q_P2 (hon 4 (by kernel_rfl)))
      refine value_ (w1 := w') (v := .string s) (wanted_on rfl rfl rfl (e34.trans (by first | rfl | (simp [*]; done)))) rfl ?_ ?_
      · go_simp
        (try simp only [i64_w])
        try rfl
      refine hK.out _ _ ⟨A1, c1, A2, c2, A3, c3, A4, c4, A5, c5, A6, c6, m2_, m4_, m13_, m15_, m25_, m27_, (by rw [ha.out]; exact putSel_upk 12 hb_ rfl rfl rfl), Q_HB, Q_BX, Q_P1, Q_P2, fun h0_ => absurd ((hoff 13 (by kernel_rfl)).symm.trans h0_) (by decide), fun h0_ => absurd ((hoff 15 (by kernel_rfl)).symm.trans h0_) (by decide), fun h0_ => absurd ((hoff 25 (by kernel_rfl)).symm.trans h0_) (by decide), fun h0_ => absurd ((hoff 27 (by kernel_rfl)).symm.trans h0_) (by decide), Q_X2_, Q_X4_, fun h0_ => absurd ((hoff 13 (by kernel_rfl)).symm.trans h0_) (by decide), fun h0_ => absurd ((hoff 15 (by kernel_rfl)).symm.trans h0_) (by decide), fun h0_ => absurd ((hoff 25 (by kernel_rfl)).symm.trans h0_) (by decide), fun h0_ => absurd ((hoff 27 (by kernel_rfl)).symm.trans h0_) (by decide)⟩
    refine steps_cons ?_ ?_
    · rintro b a w' ⟨A1, c1, A2, c2, A3, c3, A4, c4, A5, c5, A6, c6, m2_, m4_, m13_, m15_, m25_, m27_, ha, Q_HB, Q_BX, Q_P1, Q_P2, Q_P3, Q_P4, Q_P5, Q_P6, Q_X2_, Q_X4_, Q_X13_, Q_X15_, Q_X25_, Q_X27_⟩ hb_ hon hoff
      refine ⟨_, rfl, fun K hK => ?_⟩
      have e36 : a.tmps[36]? = some (.string s) := by rw [ha]; exact putSel_on (e := (12, 36, .string s)) 12 rfl rfl (hon 12 (by kernel_rfl)) rfl
      have e34 : a.tmps[34]? = some (.bool true) := by rw [ha]; exact putSel_on (e := (10, 34, .bool true)) 10 rfl rfl (hon 10 (by kernel_rfl)) rfl
      replace ha := Aside0.mk ha
      have HB := Aside0.mk Q_HB
      have BX := Aside0.mk Q_BX
      have P1 := Aside0.mk (Q_P1 (hon 2 (by kernel_rfl)))
      have P2 := Aside0.mk (Q_P2 (hon 4 (by kernel_rfl)))
      refine goes_ Try.func18 (by kernel_rfl) rfl #[.slice none 0 0, .string s] (wanted_on rfl rfl rfl (e34.trans (by first | rfl | (simp [*]; done)))) rfl rfl (by first | (simp only [List.map_toArray, List.map_cons, List.map_nil, Act.eval, Array.getD_eq_getD_getElem?, Option.getD_some, e36, e34]; done) | (simp only [List.map_toArray, List.map_cons, List.map_nil, Act.eval, Array.getD_eq_getD_getElem?, Option.getD_some, e36, e34]; rfl)) ?_
      refine (text_nil s (by have := hs2.out; omega) _).mono ?_
      rintro e_ wn_ ⟨An_, cn_, rfl, hp_, hB_⟩
      refine ⟨_, rfl, ?_⟩
      refine hK.out _ _ ⟨A1, c1, A2, c2, An_, cn_, A4, c4, A5, c5, A6, c6, m2_, m4_, (.slice An_ (textN s).length cn_), m15_, m25_, m27_, (by rw [ha.out]; exact putSel_upk 13 hb_ rfl rfl rfl), (below_step HB.out hB_), (BX.out.below hB_), fun _ => (P1.out.step hB_), fun _ => (P2.out.step hB_), fun _ => hp_, fun h0_ => absurd ((hoff 15 (by kernel_rfl)).symm.trans h0_) (by decide), fun h0_ => absurd ((hoff 25 (by kernel_rfl)).symm.trans h0_) (by decide), fun h0_ => absurd ((hoff 27 (by kernel_rfl)).symm.trans h0_) (by decide), Q_X2_, Q_X4_, fun _ => rfl, fun h0_ => absurd ((hoff 15 (by kernel_rfl)).symm.trans h0_) (by decide), fun h0_ => absurd ((hoff 25 (by kernel_rfl)).symm.trans h0_) (by decide), fun h0_ => absurd ((hoff 27 (by kernel_rfl)).symm.trans h0_) (by decide)⟩
    refine steps_cons ?_ ?_
    · rintro b a w' ⟨A1, c1, A2, c2, A3, c3, A4, c4, A5, c5, A6, c6, m2_, m4_, m13_, m15_, m25_, m27_, ha, Q_HB, Q_BX, Q_P1, Q_P2, Q_P3, Q_P4, Q_P5, Q_P6, Q_X2_, Q_X4_, Q_X13_, Q_X15_, Q_X25_, Q_X27_⟩ hb_ hon hoff
      refine ⟨_, rfl, fun K hK => ?_⟩
      have e3 : a.tmps[3]? = some (.string t) := by rw [ha]; exact (putSel_off rfl).trans rfl
      have e34 : a.tmps[34]? = some (.bool true) := by rw [ha]; exact putSel_on (e := (10, 34, .bool true)) 10 rfl rfl (hon 10 (by kernel_rfl)) rfl
      replace ha := Aside0.mk ha
      have HB := Aside0.mk Q_HB
      have BX := Aside0.mk Q_BX
      have P1 := Aside0.mk (Q_P1 (hon 2 (by kernel_rfl)))
      have P2 := Aside0.mk (Q_P2 (hon 4 (by kernel_rfl)))
      refine value_ (w1 := w') (v := .string t) (wanted_on rfl rfl rfl (e34.trans (by first | rfl | (simp [*]; done)))) rfl ?_ ?_
      · go_simp
        (try simp only [i64_w])
        try rfl
      refine hK.out _ _ ⟨A1, c1, A2, c2, A3, c3, A4, c4, A5, c5, A6, c6, m2_, m4_, m13_, m15_, m25_, m27_, (by rw [ha.out]; exact putSel_upk 14 hb_ rfl rfl rfl), Q_HB, Q_BX, Q_P1, Q_P2, Q_P3, fun h0_ => absurd ((hoff 15 (by kernel_rfl)).symm.trans h0_) (by decide), fun h0_ => absurd ((hoff 25 (by kernel_rfl)).symm.trans h0_) (by decide), fun h0_ => absurd ((hoff 27 (by kernel_rfl)).symm.trans h0_) (by decide), Q_X2_, Q_X4_, Q_X13_, fun h0_ => absurd ((hoff 15 (by kernel_rfl)).symm.trans h0_) (by decide), fun h0_ => absurd ((hoff 25 (by kernel_rfl)).symm.trans h0_) (by decide), fun h0_ => absurd ((hoff 27 (by kernel_rfl)).symm.trans h0_) (by decide)⟩
    refine steps_cons ?_ ?_
    · rintro b a w' ⟨A1, c1, A2, c2, A3, c3, A4, c4, A5, c5, A6, c6, m2_, m4_, m13_, m15_, m25_, m27_, ha, Q_HB, Q_BX, Q_P1, Q_P2, Q_P3, Q_P4, Q_P5, Q_P6, Q_X2_, Q_X4_, Q_X13_, Q_X15_, Q_X25_, Q_X27_⟩ hb_ hon hoff
      refine ⟨_, rfl, fun K hK => ?_⟩
      have e38 : a.tmps[38]? = some (.string t) := by rw [ha]; exact putSel_on (e := (14, 38, .string t)) 14 rfl rfl (hon 14 (by kernel_rfl)) rfl
      have e34 : a.tmps[34]? = some (.bool true) := by rw [ha]; exact putSel_on (e := (10, 34, .bool true)) 10 rfl rfl (hon 10 (by kernel_rfl)) rfl
      replace ha := Aside0.mk ha
      have HB := Aside0.mk Q_HB
      have BX := Aside0.mk Q_BX
      have P1 := Aside0.mk (Q_P1 (hon 2 (by kernel_rfl)))
      have P2 := Aside0.mk (Q_P2 (hon 4 (by kernel_rfl)))
      have P3 := Aside0.mk (Q_P3 (hon 13 (by kernel_rfl)))
      refine goes_ Try.func18 (by kernel_rfl) rfl #[.slice none 0 0, .string t] (wanted_on rfl rfl rfl (e34.trans (by first | rfl | (simp [*]; done)))) rfl rfl (by first | (simp only [List.map_toArray, List.map_cons, List.map_nil, Act.eval, Array.getD_eq_getD_getElem?, Option.getD_some, e38, e34]; done) | (simp only [List.map_toArray, List.map_cons, List.map_nil, Act.eval, Array.getD_eq_getD_getElem?, Option.getD_some, e38, e34]; rfl)) ?_
      refine (text_nil t (by have := ht2.out; omega) _).mono ?_
      rintro e_ wn_ ⟨An_, cn_, rfl, hp_, hB_⟩
      refine ⟨_, rfl, ?_⟩
      refine hK.out _ _ ⟨A1, c1, A2, c2, A3, c3, An_, cn_, A5, c5, A6, c6, m2_, m4_, m13_, (.slice An_ (textN t).length cn_), m25_, m27_, (by rw [ha.out]; exact putSel_upk 15 hb_ rfl rfl rfl), (below_step HB.out hB_), (BX.out.below hB_), fun _ => (P1.out.step hB_), fun _ => (P2.out.step hB_), fun _ => (P3.out.step hB_), fun _ => hp_, fun h0_ => absurd ((hoff 25 (by kernel_rfl)).symm.trans h0_) (by decide), fun h0_ => absurd ((hoff 27 (by kernel_rfl)).symm.trans h0_) (by decide), Q_X2_, Q_X4_, Q_X13_, fun _ => rfl, fun h0_ => absurd ((hoff 25 (by kernel_rfl)).symm.trans h0_) (by decide), fun h0_ => absurd ((hoff 27 (by kernel_rfl)).symm.trans h0_) (by decide)⟩
    refine steps_cons ?_ ?_
    · rintro b a w' ⟨A1, c1, A2, c2, A3, c3, A4, c4, A5, c5, A6, c6, m2_, m4_, m13_, m15_, m25_, m27_, ha, Q_HB, Q_BX, Q_P1, Q_P2, Q_P3, Q_P4, Q_P5, Q_P6, Q_X2_, Q_X4_, Q_X13_, Q_X15_, Q_X25_, Q_X27_⟩ hb_ hon hoff
      refine ⟨_, rfl, fun K hK => ?_⟩
      have e35 : a.tmps[35]? = some (.func (Fn.func 17) #[] #[]) := by rw [ha]; exact putSel_on (e := (11, 35, .func (Fn.func 17) #[] #[])) 11 rfl rfl (hon 11 (by kernel_rfl)) rfl
      have e37 : a.tmps[37]? = some (m13_) := by rw [ha]; exact putSel_on (e := (13, 37, m13_)) 13 rfl rfl (hon 13 (by kernel_rfl)) rfl
      rw [Q_X13_ (hon 13 (by kernel_rfl))] at e37
      have e39 : a.tmps[39]? = some (m15_) := by rw [ha]; exact putSel_on (e := (15, 39, m15_)) 15 rfl rfl (hon 15 (by kernel_rfl)) rfl
      rw [Q_X15_ (hon 15 (by kernel_rfl))] at e39
      have e34 : a.tmps[34]? = some (.bool true) := by rw [ha]; exact putSel_on (e := (10, 34, .bool true)) 10 rfl rfl (hon 10 (by kernel_rfl)) rfl
      replace ha := Aside0.mk ha
      have HB := Aside0.mk Q_HB
      have BX := Aside0.mk Q_BX
      have P1 := Aside0.mk (Q_P1 (hon 2 (by kernel_rfl)))
      have P2 := Aside0.mk (Q_P2 (hon 4 (by kernel_rfl)))
      have P3 := Aside0.mk (Q_P3 (hon 13 (by kernel_rfl)))
      have P4 := Aside0.mk (Q_P4 (hon 15 (by kernel_rfl)))
      refine goesV_ (t := 35) (f := 17) Try.func17 (by kernel_rfl) rfl #[.slice A3 (textN s).length c3, .slice A4 (textN t).length c4] (wanted_on rfl rfl rfl (e34.trans (by first | rfl | (simp [*]; done)))) rfl rfl e35 (by first | (simp only [List.map_toArray, List.map_cons, List.map_nil, Act.eval, Array.getD_eq_getD_getElem?, Option.getD_some, e35, e37, e39, e34]; done) | (simp only [List.map_toArray, List.map_cons, List.map_nil, Act.eval, Array.getD_eq_getD_getElem?, Option.getD_some, e35, e37, e39, e34]; rfl)) ?_
      refine (begins_at q2 P4.out.le P3.out.C P4.out.C g2.out).mono ?_
      rintro e_ wn_ ⟨rfl, nn_, rfl⟩
      refine ⟨_, rfl, ?_⟩
      refine hK.out _ _ ⟨A1, c1, A2, c2, A3, c3, A4, c4, A5, c5, A6, c6, m2_, m4_, m13_, m15_, m25_, m27_, (by rw [ha.out]; exact putSel_upk 16 hb_ rfl rfl rfl), (pw_below_drewN HB.out nn_), (BX.out.below (drewn _ nn_)), fun _ => (P1.out.step (drewn _ nn_)), fun _ => (P2.out.step (drewn _ nn_)), fun _ => (P3.out.step (drewn _ nn_)), fun _ => (P4.out.step (drewn _ nn_)), fun h0_ => absurd ((hoff 25 (by kernel_rfl)).symm.trans h0_) (by decide), fun h0_ => absurd ((hoff 27 (by kernel_rfl)).symm.trans h0_) (by decide), Q_X2_, Q_X4_, Q_X13_, Q_X15_, fun h0_ => absurd ((hoff 25 (by kernel_rfl)).symm.trans h0_) (by decide), fun h0_ => absurd ((hoff 27 (by kernel_rfl)).symm.trans h0_) (by decide)⟩
    refine steps_cons ?_ ?_
    · rintro b a w' ⟨A1, c1, A2, c2, A3, c3, A4, c4, A5, c5, A6, c6, m2_, m4_, m13_, m15_, m25_, m27_, ha, Q_HB, Q_BX, Q_P1, Q_P2, Q_P3, Q_P4, Q_P5, Q_P6, Q_X2_, Q_X4_, Q_X13_, Q_X15_, Q_X25_, Q_X27_⟩ hb_ hon hoff
      refine ⟨_, rfl, fun K hK => ?_⟩
      have e2 : a.tmps[2]? = some (.string s) := by rw [ha]; exact (putSel_off rfl).trans rfl
      have e34 : a.tmps[34]? = some (.bool true) := by rw [ha]; exact putSel_on (e := (10, 34, .bool true)) 10 rfl rfl (hon 10 (by kernel_rfl)) rfl
      replace ha := Aside0.mk ha
      have HB := Aside0.mk Q_HB
      have BX := Aside0.mk Q_BX
      have P1 := Aside0.mk (Q_P1 (hon 2 (by kernel_rfl)))
      have P2 := Aside0.mk (Q_P2 (hon 4 (by kernel_rfl)))
      refine value_ (w1 := w') (v := .string s) (wanted_on rfl rfl rfl (e34.trans (by first | rfl | (simp [*]; done)))) rfl ?_ ?_
      · go_simp
        (try simp only [i64_w])
        try rfl
      refine hK.out _ _ ⟨A1, c1, A2, c2, A3, c3, A4, c4, A5, c5, A6, c6, m2_, m4_, m13_, m15_, m25_, m27_, (by rw [ha.out]; exact putSel_upk 17 hb_ rfl rfl rfl), Q_HB, Q_BX, Q_P1, Q_P2, Q_P3, Q_P4, fun h0_ => absurd ((hoff 25 (by kernel_rfl)).symm.trans h0_) (by decide), fun h0_ => absurd ((hoff 27 (by kernel_rfl)).symm.trans h0_) (by decide), Q_X2_, Q_X4_, Q_X13_, Q_X15_, fun h0_ => absurd ((hoff 25 (by kernel_rfl)).symm.trans h0_) (by decide), fun h0_ => absurd ((hoff 27 (by kernel_rfl)).symm.trans h0_) (by decide)⟩
    refine steps_cons ?_ ?_
    · rintro b a w' ⟨A1, c1, A2, c2, A3, c3, A4, c4, A5, c5, A6, c6, m2_, m4_, m13_, m15_, m25_, m27_, ha, Q_HB, Q_BX, Q_P1, Q_P2, Q_P3, Q_P4, Q_P5, Q_P6, Q_X2_, Q_X4_, Q_X13_, Q_X15_, Q_X25_, Q_X27_⟩ hb_ hon hoff
      refine ⟨_, rfl, fun K hK => ?_⟩
      have e3 : a.tmps[3]? = some (.string t) := by rw [ha]; exact (putSel_off rfl).trans rfl
      have e34 : a.tmps[34]? = some (.bool true) := by rw [ha]; exact putSel_on (e := (10, 34, .bool true)) 10 rfl rfl (hon 10 (by kernel_rfl)) rfl
      replace ha := Aside0.mk ha
      have HB := Aside0.mk Q_HB
      have BX := Aside0.mk Q_BX
      have P1 := Aside0.mk (Q_P1 (hon 2 (by kernel_rfl)))
      have P2 := Aside0.mk (Q_P2 (hon 4 (by kernel_rfl)))
      refine value_ (w1 := w') (v := .string t) (wanted_on rfl rfl rfl (e34.trans (by first | rfl | (simp [*]; done)))) rfl ?_ ?_
      · go_simp
        (try simp only [i64_w])
        try rfl
      refine hK.out _ _ ⟨A1, c1, A2, c2, A3, c3, A4, c4, A5, c5, A6, c6, m2_, m4_, m13_, m15_, m25_, m27_, (by rw [ha.out]; exact putSel_upk 18 hb_ rfl rfl rfl), Q_HB, Q_BX, Q_P1, Q_P2, Q_P3, Q_P4, fun h0_ => absurd ((hoff 25 (by kernel_rfl)).symm.trans h0_) (by decide), fun h0_ => absurd ((hoff 27 (by kernel_rfl)).symm.trans h0_) (by decide), Q_X2_, Q_X4_, Q_X13_, Q_X15_, fun h0_ => absurd ((hoff 25 (by kernel_rfl)).symm.trans h0_) (by decide), fun h0_ => absurd ((hoff 27 (by kernel_rfl)).symm.trans h0_) (by decide)⟩
    refine steps_cons ?_ ?_
    · rintro b a w' ⟨A1, c1, A2, c2, A3, c3, A4, c4, A5, c5, A6, c6, m2_, m4_, m13_, m15_, m25_, m27_, ha, Q_HB, Q_BX, Q_P1, Q_P2, Q_P3, Q_P4, Q_P5, Q_P6, Q_X2_, Q_X4_, Q_X13_, Q_X15_, Q_X25_, Q_X27_⟩ hb_ hon hoff
      refine ⟨_, rfl, fun K hK => ?_⟩
      have e41 : a.tmps[41]? = some (.string s) := by rw [ha]; exact putSel_on (e := (17, 41, .string s)) 17 rfl rfl (hon 17 (by kernel_rfl)) rfl
      have e42 : a.tmps[42]? = some (.string t) := by rw [ha]; exact putSel_on (e := (18, 42, .string t)) 18 rfl rfl (hon 18 (by kernel_rfl)) rfl
      have e34 : a.tmps[34]? = some (.bool true) := by rw [ha]; exact putSel_on (e := (10, 34, .bool true)) 10 rfl rfl (hon 10 (by kernel_rfl)) rfl
      replace ha := Aside0.mk ha
      have HB := Aside0.mk Q_HB
      have BX := Aside0.mk Q_BX
      have P1 := Aside0.mk (Q_P1 (hon 2 (by kernel_rfl)))
      have P2 := Aside0.mk (Q_P2 (hon 4 (by kernel_rfl)))
      refine value_ (w1 := w') (v := .bool q2) (wanted_on rfl rfl rfl (e34.trans (by first | rfl | (simp [*]; done)))) rfl ?_ ?_
      · go_simp
        (try simp only [i64_w])
        try rfl
      refine hK.out _ _ ⟨A1, c1, A2, c2, A3, c3, A4, c4, A5, c5, A6, c6, m2_, m4_, m13_, m15_, m25_, m27_, (by rw [ha.out]; exact putSel_upk 19 hb_ rfl rfl rfl), Q_HB, Q_BX, Q_P1, Q_P2, Q_P3, Q_P4, fun h0_ => absurd ((hoff 25 (by kernel_rfl)).symm.trans h0_) (by decide), fun h0_ => absurd ((hoff 27 (by kernel_rfl)).symm.trans h0_) (by decide), Q_X2_, Q_X4_, Q_X13_, Q_X15_, fun h0_ => absurd ((hoff 25 (by kernel_rfl)).symm.trans h0_) (by decide), fun h0_ => absurd ((hoff 27 (by kernel_rfl)).symm.trans h0_) (by decide)⟩
    refine steps_cons ?_ ?_
    · rintro b a w' ⟨A1, c1, A2, c2, A3, c3, A4, c4, A5, c5, A6, c6, m2_, m4_, m13_, m15_, m25_, m27_, ha, Q_HB, Q_BX, Q_P1, Q_P2, Q_P3, Q_P4, Q_P5, Q_P6, Q_X2_, Q_X4_, Q_X13_, Q_X15_, Q_X25_, Q_X27_⟩ hb_ hon hoff
      refine ⟨_, rfl, fun K hK => ?_⟩
      have e40 : a.tmps[40]? = some (.bool q2) := by rw [ha]; exact putSel_on (e := (16, 40, .bool q2)) 16 rfl rfl (hon 16 (by kernel_rfl)) rfl
      have e43 : a.tmps[43]? = some (.bool q2) := by rw [ha]; exact putSel_on (e := (19, 43, .bool q2)) 19 rfl rfl (hon 19 (by kernel_rfl)) rfl
      have e34 : a.tmps[34]? = some (.bool true) := by rw [ha]; exact putSel_on (e := (10, 34, .bool true)) 10 rfl rfl (hon 10 (by kernel_rfl)) rfl
      replace ha := Aside0.mk ha
      have HB := Aside0.mk Q_HB
      have BX := Aside0.mk Q_BX
      have P1 := Aside0.mk (Q_P1 (hon 2 (by kernel_rfl)))
      have P2 := Aside0.mk (Q_P2 (hon 4 (by kernel_rfl)))
      have P3 := Aside0.mk (Q_P3 (hon 13 (by kernel_rfl)))
      have P4 := Aside0.mk (Q_P4 (hon 15 (by kernel_rfl)))
      refine value_ (w1 := w') (v := .bool true) (wanted_on rfl rfl rfl (e34.trans (by first | rfl | (simp [*]; done)))) rfl ?_ ?_
      · go_simp
        (try simp only [i64_w])
        try rfl
      refine hK.out _ _ ⟨A1, c1, A2, c2, A3, c3, A4, c4, A5, c5, A6, c6, m2_, m4_, m13_, m15_, m25_, m27_, (by rw [ha.out]; exact putSel_upk 20 hb_ rfl rfl rfl), Q_HB, Q_BX, Q_P1, Q_P2, Q_P3, Q_P4, fun h0_ => absurd ((hoff 25 (by kernel_rfl)).symm.trans h0_) (by decide), fun h0_ => absurd ((hoff 27 (by kernel_rfl)).symm.trans h0_) (by decide), Q_X2_, Q_X4_, Q_X13_, Q_X15_, fun h0_ => absurd ((hoff 25 (by kernel_rfl)).symm.trans h0_) (by decide), fun h0_ => absurd ((hoff 27 (by kernel_rfl)).symm.trans h0_) (by decide)⟩
    refine steps_cons ?_ ?_
    · rintro b a w' ⟨A1, c1, A2, c2, A3, c3, A4, c4, A5, c5, A6, c6, m2_, m4_, m13_, m15_, m25_, m27_, ha, Q_HB, Q_BX, Q_P1, Q_P2, Q_P3, Q_P4, Q_P5, Q_P6, Q_X2_, Q_X4_, Q_X13_, Q_X15_, Q_X25_, Q_X27_⟩ hb_ hon hoff
      refine ⟨_, rfl, fun K hK => ?_⟩
      have e34 : a.tmps[34]? = some (.bool true) := by rw [ha]; exact putSel_on (e := (10, 34, .bool true)) 10 rfl rfl (hon 10 (by kernel_rfl)) rfl
      have e44 : a.tmps[44]? = some (.bool true) := by rw [ha]; exact putSel_on (e := (20, 44, .bool true)) 20 rfl rfl (hon 20 (by kernel_rfl)) rfl
      replace ha := Aside0.mk ha
      have HB := Aside0.mk Q_HB
      have BX := Aside0.mk Q_BX
      have P1 := Aside0.mk (Q_P1 (hon 2 (by kernel_rfl)))
      have P2 := Aside0.mk (Q_P2 (hon 4 (by kernel_rfl)))
      have P3 := Aside0.mk (Q_P3 (hon 13 (by kernel_rfl)))
      have P4 := Aside0.mk (Q_P4 (hon 15 (by kernel_rfl)))
      refine value_ (w1 := w') (v := .bool true) (by rfl) rfl ?_ ?_
      · go_simp
        (try simp only [i64_w])
        try rfl
      refine hK.out _ _ ⟨A1, c1, A2, c2, A3, c3, A4, c4, A5, c5, A6, c6, m2_, m4_, m13_, m15_, m25_, m27_, (by rw [ha.out]; exact putSel_upk 21 hb_ rfl rfl rfl), Q_HB, Q_BX, Q_P1, Q_P2, Q_P3, Q_P4, fun h0_ => absurd ((hoff 25 (by kernel_rfl)).symm.trans h0_) (by decide), fun h0_ => absurd ((hoff 27 (by kernel_rfl)).symm.trans h0_) (by decide), Q_X2_, Q_X4_, Q_X13_, Q_X15_, fun h0_ => absurd ((hoff 25 (by kernel_rfl)).symm.trans h0_) (by decide), fun h0_ => absurd ((hoff 27 (by kernel_rfl)).symm.trans h0_) (by decide)⟩
    refine steps_cons ?_ ?_
    · rintro b a w' ⟨A1, c1, A2, c2, A3, c3, A4, c4, A5, c5, A6, c6, m2_, m4_, m13_, m15_, m25_, m27_, ha, Q_HB, Q_BX, Q_P1, Q_P2, Q_P3, Q_P4, Q_P5, Q_P6, Q_X2_, Q_X4_, Q_X13_, Q_X15_, Q_X25_, Q_X27_⟩ hb_ hon hoff
      refine ⟨_, rfl, fun K hK => ?_⟩
      have e45 : a.tmps[45]? = some (.bool true) := by rw [ha]; exact putSel_on (e := (21, 45, .bool true)) 21 rfl rfl (hon 21 (by kernel_rfl)) rfl
      replace ha := Aside0.mk ha
      have HB := Aside0.mk Q_HB
      have BX := Aside0.mk Q_BX
      have P1 := Aside0.mk (Q_P1 (hon 2 (by kernel_rfl)))
      have P2 := Aside0.mk (Q_P2 (hon 4 (by kernel_rfl)))
      have P3 := Aside0.mk (Q_P3 (hon 13 (by kernel_rfl)))
      have P4 := Aside0.mk (Q_P4 (hon 15 (by kernel_rfl)))
      refine value_ (w1 := w') (v := .bool true) (by rfl) rfl ?_ ?_
      · go_simp
        (try simp only [i64_w])
        try rfl
      refine hK.out _ _ ⟨A1, c1, A2, c2, A3, c3, A4, c4, A5, c5, A6, c6, m2_, m4_, m13_, m15_, m25_, m27_, (by rw [ha.out]; exact putSel_upk 22 hb_ rfl rfl rfl), Q_HB, Q_BX, Q_P1, Q_P2, Q_P3, Q_P4, fun h0_ => absurd ((hoff 25 (by kernel_rfl)).symm.trans h0_) (by decide), fun h0_ => absurd ((hoff 27 (by kernel_rfl)).symm.trans h0_) (by decide), Q_X2_, Q_X4_, Q_X13_, Q_X15_, fun h0_ => absurd ((hoff 25 (by kernel_rfl)).symm.trans h0_) (by decide), fun h0_ => absurd ((hoff 27 (by kernel_rfl)).symm.trans h0_) (by decide)⟩
    refine steps_cons ?_ ?_
    · rintro b a w' ⟨A1, c1, A2, c2, A3, c3, A4, c4, A5, c5, A6, c6, m2_, m4_, m13_, m15_, m25_, m27_, ha, Q_HB, Q_BX, Q_P1, Q_P2, Q_P3, Q_P4, Q_P5, Q_P6, Q_X2_, Q_X4_, Q_X13_, Q_X15_, Q_X25_, Q_X27_⟩ hb_ hon hoff
      refine ⟨_, rfl, fun K hK => ?_⟩
      have e13 : a.tmps[13]? = some (.func (Fn.func 17) #[] #[]) := by rw [ha]; exact (putSel_off rfl).trans rfl
      have e46 : a.tmps[46]? = some (.bool true) := by rw [ha]; exact putSel_on (e := (22, 46, .bool true)) 22 rfl rfl (hon 22 (by kernel_rfl)) rfl
      replace ha := Aside0.mk ha
      have HB := Aside0.mk Q_HB
      have BX := Aside0.mk Q_BX
      have P1 := Aside0.mk (Q_P1 (hon 2 (by kernel_rfl)))
      have P2 := Aside0.mk (Q_P2 (hon 4 (by kernel_rfl)))
      have P3 := Aside0.mk (Q_P3 (hon 13 (by kernel_rfl)))
      have P4 := Aside0.mk (Q_P4 (hon 15 (by kernel_rfl)))
      refine value_ (w1 := w') (v := .func (Fn.func 17) #[] #[]) (wanted_on rfl rfl rfl (e46.trans (by first | rfl | (simp [*]; done)))) rfl ?_ ?_
      · go_simp
        (try simp only [i64_w])
        try rfl
      refine hK.out _ _ ⟨A1, c1, A2, c2, A3, c3, A4, c4, A5, c5, A6, c6, m2_, m4_, m13_, m15_, m25_, m27_, (by rw [ha.out]; exact putSel_upk 23 hb_ rfl rfl rfl), Q_HB, Q_BX, Q_P1, Q_P2, Q_P3, Q_P4, Q_P5, Q_P6, Q_X2_, Q_X4_, Q_X13_, Q_X15_, Q_X25_, Q_X27_⟩
    refine steps_cons ?_ ?_
    · rintro b a w' ⟨A1, c1, A2, c2, A3, c3, A4, c4, A5, c5, A6, c6, m2_, m4_, m13_, m15_, m25_, m27_, ha, Q_HB, Q_BX, Q_P1, Q_P2, Q_P3, Q_P4, Q_P5, Q_P6, Q_X2_, Q_X4_, Q_X13_, Q_X15_, Q_X25_, Q_X27_⟩ hb_ hon hoff
      refine ⟨_, rfl, fun K hK => ?_⟩
      have e10 : a.tmps[10]? = some (.pointer (some ⟨w.heap.size, 0, none⟩)) := by rw [ha]; exact (putSel_off rfl).trans rfl
      have e46 : a.tmps[46]? = some (.bool true) := by rw [ha]; exact putSel_on (e := (22, 46, .bool true)) 22 rfl rfl (hon 22 (by kernel_rfl)) rfl
      replace ha := Aside0.mk ha
      have HB := Aside0.mk Q_HB
      have BX := Aside0.mk Q_BX
      have P1 := Aside0.mk (Q_P1 (hon 2 (by kernel_rfl)))
      have P2 := Aside0.mk (Q_P2 (hon 4 (by kernel_rfl)))
      have P3 := Aside0.mk (Q_P3 (hon 13 (by kernel_rfl)))
      have P4 := Aside0.mk (Q_P4 (hon 15 (by kernel_rfl)))
      obtain ⟨_, d1, d2, d3, d4⟩ := BX.out
      refine value_ (w1 := w') (v := .agg #[.int .u64 m, .int .i64 n]) (wanted_on rfl rfl rfl (e46.trans (by first | rfl | (simp [*]; done)))) rfl ?_ ?_
      · go_simp
        (try simp only [i64_w])
        try rfl
      refine hK.out _ _ ⟨A1, c1, A2, c2, A3, c3, A4, c4, A5, c5, A6, c6, m2_, m4_, m13_, m15_, m25_, m27_, (by rw [ha.out]; exact putSel_upk 24 hb_ rfl rfl rfl), Q_HB, Q_BX, Q_P1, Q_P2, Q_P3, Q_P4, fun h0_ => absurd ((hoff 25 (by kernel_rfl)).symm.trans h0_) (by decide), fun h0_ => absurd ((hoff 27 (by kernel_rfl)).symm.trans h0_) (by decide), Q_X2_, Q_X4_, Q_X13_, Q_X15_, fun h0_ => absurd ((hoff 25 (by kernel_rfl)).symm.trans h0_) (by decide), fun h0_ => absurd ((hoff 27 (by kernel_rfl)).symm.trans h0_) (by decide)⟩
    refine steps_cons ?_ ?_
    · rintro b a w' ⟨A1, c1, A2, c2, A3, c3, A4, c4, A5, c5, A6, c6, m2_, m4_, m13_, m15_, m25_, m27_, ha, Q_HB, Q_BX, Q_P1, Q_P2, Q_P3, Q_P4, Q_P5, Q_P6, Q_X2_, Q_X4_, Q_X13_, Q_X15_, Q_X25_, Q_X27_⟩ hb_ hon hoff
      refine ⟨_, rfl, fun K hK => ?_⟩
      have e48 : a.tmps[48]? = some (.agg #[.int .u64 m, .int .i64 n]) := by rw [ha]; exact putSel_on (e := (24, 48, .agg #[.int .u64 m, .int .i64 n])) 24 rfl rfl (hon 24 (by kernel_rfl)) rfl
      have e46 : a.tmps[46]? = some (.bool true) := by rw [ha]; exact putSel_on (e := (22, 46, .bool true)) 22 rfl rfl (hon 22 (by kernel_rfl)) rfl
      replace ha := Aside0.mk ha
      have HB := Aside0.mk Q_HB
      have BX := Aside0.mk Q_BX
      have P1 := Aside0.mk (Q_P1 (hon 2 (by kernel_rfl)))
      have P2 := Aside0.mk (Q_P2 (hon 4 (by kernel_rfl)))
      have P3 := Aside0.mk (Q_P3 (hon 13 (by kernel_rfl)))
      have P4 := Aside0.mk (Q_P4 (hon 15 (by kernel_rfl)))
      refine goes_ Try.func19 (by kernel_rfl) rfl #[.slice none 0 0, .agg #[.int .u64 m, .int .i64 n]] (wanted_on rfl rfl rfl (e46.trans (by first | rfl | (simp [*]; done)))) rfl rfl (by first | (simp only [List.map_toArray, List.map_cons, List.map_nil, Act.eval, Array.getD_eq_getD_getElem?, Option.getD_some, e48, e46]; done) | (simp only [List.map_toArray, List.map_cons, List.map_nil, Act.eval, Array.getD_eq_getD_getElem?, Option.getD_some, e48, e46]; rfl)) ?_
      refine (tid_nil m n h0.out h1.out _).mono ?_
      rintro e_ wn_ ⟨An_, cn_, rfl, hp_, hB_⟩
      refine ⟨_, rfl, ?_⟩
      refine hK.out _ _ ⟨A1, c1, A2, c2, A3, c3, A4, c4, An_, cn_, A6, c6, m2_, m4_, m13_, m15_, (.slice An_ (tidN m n).length cn_), m27_, (by rw [ha.out]; exact putSel_upk 25 hb_ rfl rfl rfl), (below_step HB.out hB_), (BX.out.below hB_), fun _ => (P1.out.step hB_), fun _ => (P2.out.step hB_), fun _ => (P3.out.step hB_), fun _ => (P4.out.step hB_), fun _ => hp_, fun h0_ => absurd ((hoff 27 (by kernel_rfl)).symm.trans h0_) (by decide), Q_X2_, Q_X4_, Q_X13_, Q_X15_, fun _ => rfl, fun h0_ => absurd ((hoff 27 (by kernel_rfl)).symm.trans h0_) (by decide)⟩
    refine steps_cons ?_ ?_
    · rintro b a w' ⟨A1, c1, A2, c2, A3, c3, A4, c4, A5, c5, A6, c6, m2_, m4_, m13_, m15_, m25_, m27_, ha, Q_HB, Q_BX, Q_P1, Q_P2, Q_P3, Q_P4, Q_P5, Q_P6, Q_X2_, Q_X4_, Q_X13_, Q_X15_, Q_X25_, Q_X27_⟩ hb_ hon hoff
      refine ⟨_, rfl, fun K hK => ?_⟩
      have e11 : a.tmps[11]? = some (.pointer (some ⟨w.heap.size + 1, 0, none⟩)) := by rw [ha]; exact (putSel_off rfl).trans rfl
      have e46 : a.tmps[46]? = some (.bool true) := by rw [ha]; exact putSel_on (e := (22, 46, .bool true)) 22 rfl rfl (hon 22 (by kernel_rfl)) rfl
      replace ha := Aside0.mk ha
      have HB := Aside0.mk Q_HB
      have BX := Aside0.mk Q_BX
      have P1 := Aside0.mk (Q_P1 (hon 2 (by kernel_rfl)))
      have P2 := Aside0.mk (Q_P2 (hon 4 (by kernel_rfl)))
      have P3 := Aside0.mk (Q_P3 (hon 13 (by kernel_rfl)))
      have P4 := Aside0.mk (Q_P4 (hon 15 (by kernel_rfl)))
      obtain ⟨_, d1, d2, d3, d4⟩ := BX.out
      refine value_ (w1 := w') (v := .agg #[.int .u64 m', .int .i64 n']) (wanted_on rfl rfl rfl (e46.trans (by first | rfl | (simp [*]; done)))) rfl ?_ ?_
      · go_simp
        (try simp only [i64_w])
        try rfl
      refine hK.out _ _ ⟨A1, c1, A2, c2, A3, c3, A4, c4, A5, c5, A6, c6, m2_, m4_, m13_, m15_, m25_, m27_, (by rw [ha.out]; exact putSel_upk 26 hb_ rfl rfl rfl), Q_HB, Q_BX, Q_P1, Q_P2, Q_P3, Q_P4, Q_P5, fun h0_ => absurd ((hoff 27 (by kernel_rfl)).symm.trans h0_) (by decide), Q_X2_, Q_X4_, Q_X13_, Q_X15_, Q_X25_, fun h0_ => absurd ((hoff 27 (by kernel_rfl)).symm.trans h0_) (by decide)⟩
    refine steps_cons ?_ ?_
    · rintro b a w' ⟨A1, c1, A2, c2, A3, c3, A4, c4, A5, c5, A6, c6, m2_, m4_, m13_, m15_, m25_, m27_, ha, Q_HB, Q_BX, Q_P1, Q_P2, Q_P3, Q_P4, Q_P5, Q_P6, Q_X2_, Q_X4_, Q_X13_, Q_X15_, Q_X25_, Q_X27_⟩ hb_ hon hoff
      refine ⟨_, rfl, fun K hK => ?_⟩
      have e50 : a.tmps[50]? = some (.agg #[.int .u64 m', .int .i64 n']) := by rw [ha]; exact putSel_on (e := (26, 50, .agg #[.int .u64 m', .int .i64 n'])) 26 rfl rfl (hon 26 (by kernel_rfl)) rfl
      have e46 : a.tmps[46]? = some (.bool true) := by rw [ha]; exact putSel_on (e := (22, 46, .bool true)) 22 rfl rfl (hon 22 (by kernel_rfl)) rfl
      replace ha := Aside0.mk ha
      have HB := Aside0.mk Q_HB
      have BX := Aside0.mk Q_BX
      have P1 := Aside0.mk (Q_P1 (hon 2 (by kernel_rfl)))
      have P2 := Aside0.mk (Q_P2 (hon 4 (by kernel_rfl)))
      have P3 := Aside0.mk (Q_P3 (hon 13 (by kernel_rfl)))
      have P4 := Aside0.mk (Q_P4 (hon 15 (by kernel_rfl)))
      have P5 := Aside0.mk (Q_P5 (hon 25 (by kernel_rfl)))
      refine goes_ Try.func19 (by kernel_rfl) rfl #[.slice none 0 0, .agg #[.int .u64 m', .int .i64 n']] (wanted_on rfl rfl rfl (e46.trans (by first | rfl | (simp [*]; done)))) rfl rfl (by first | (simp only [List.map_toArray, List.map_cons, List.map_nil, Act.eval, Array.getD_eq_getD_getElem?, Option.getD_some, e50, e46]; done) | (simp only [List.map_toArray, List.map_cons, List.map_nil, Act.eval, Array.getD_eq_getD_getElem?, Option.getD_some, e50, e46]; rfl)) ?_
      refine (tid_nil m' n' h0'.out h1'.out _).mono ?_
      rintro e_ wn_ ⟨An_, cn_, rfl, hp_, hB_⟩
      refine ⟨_, rfl, ?_⟩
      refine hK.out _ _ ⟨A1, c1, A2, c2, A3, c3, A4, c4, A5, c5, An_, cn_, m2_, m4_, m13_, m15_, m25_, (.slice An_ (tidN m' n').length cn_), (by rw [ha.out]; exact putSel_upk 27 hb_ rfl rfl rfl), (below_step HB.out hB_), (BX.out.below hB_), fun _ => (P1.out.step hB_), fun _ => (P2.out.step hB_), fun _ => (P3.out.step hB_), fun _ => (P4.out.step hB_), fun _ => (P5.out.step hB_), fun _ => hp_, Q_X2_, Q_X4_, Q_X13_, Q_X15_, Q_X25_, fun _ => rfl⟩
    refine steps_cons ?_ ?_
    · rintro b a w' ⟨A1, c1, A2, c2, A3, c3, A4, c4, A5, c5, A6, c6, m2_, m4_, m13_, m15_, m25_, m27_, ha, Q_HB, Q_BX, Q_P1, Q_P2, Q_P3, Q_P4, Q_P5, Q_P6, Q_X2_, Q_X4_, Q_X13_, Q_X15_, Q_X25_, Q_X27_⟩ hb_ hon hoff
      refine ⟨_, rfl, fun K hK => ?_⟩
      have e47 : a.tmps[47]? = some (.func (Fn.func 17) #[] #[]) := by rw [ha]; exact putSel_on (e := (23, 47, .func (Fn.func 17) #[] #[])) 23 rfl rfl (hon 23 (by kernel_rfl)) rfl
      have e49 : a.tmps[49]? = some (m25_) := by rw [ha]; exact putSel_on (e := (25, 49, m25_)) 25 rfl rfl (hon 25 (by kernel_rfl)) rfl
      rw [Q_X25_ (hon 25 (by kernel_rfl))] at e49
      have e51 : a.tmps[51]? = some (m27_) := by rw [ha]; exact putSel_on (e := (27, 51, m27_)) 27 rfl rfl (hon 27 (by kernel_rfl)) rfl
      rw [Q_X27_ (hon 27 (by kernel_rfl))] at e51
      have e46 : a.tmps[46]? = some (.bool true) := by rw [ha]; exact putSel_on (e := (22, 46, .bool true)) 22 rfl rfl (hon 22 (by kernel_rfl)) rfl
      replace ha := Aside0.mk ha
      have HB := Aside0.mk Q_HB
      have BX := Aside0.mk Q_BX
      have P1 := Aside0.mk (Q_P1 (hon 2 (by kernel_rfl)))
      have P2 := Aside0.mk (Q_P2 (hon 4 (by kernel_rfl)))
      have P3 := Aside0.mk (Q_P3 (hon 13 (by kernel_rfl)))
      have P4 := Aside0.mk (Q_P4 (hon 15 (by kernel_rfl)))
      have P5 := Aside0.mk (Q_P5 (hon 25 (by kernel_rfl)))
      have P6 := Aside0.mk (Q_P6 (hon 27 (by kernel_rfl)))
      refine goesV_ (t := 47) (f := 17) Try.func17 (by kernel_rfl) rfl #[.slice A5 (tidN m n).length c5, .slice A6 (tidN m' n').length c6] (wanted_on rfl rfl rfl (e46.trans (by first | rfl | (simp [*]; done)))) rfl rfl e47 (by first | (simp only [List.map_toArray, List.map_cons, List.map_nil, Act.eval, Array.getD_eq_getD_getElem?, Option.getD_some, e47, e49, e51, e46]; done) | (simp only [List.map_toArray, List.map_cons, List.map_nil, Act.eval, Array.getD_eq_getD_getElem?, Option.getD_some, e47, e49, e51, e46]; rfl)) ?_
      refine (begins_at q3 P6.out.le P5.out.C P6.out.C g3.out).mono ?_
      rintro e_ wn_ ⟨rfl, nn_, rfl⟩
      refine ⟨_, rfl, ?_⟩
      refine hK.out _ _ ⟨A1, c1, A2, c2, A3, c3, A4, c4, A5, c5, A6, c6, m2_, m4_, m13_, m15_, m25_, m27_, (by rw [ha.out]; exact putSel_upk 28 hb_ rfl rfl rfl), (pw_below_drewN HB.out nn_), (BX.out.below (drewn _ nn_)), fun _ => (P1.out.step (drewn _ nn_)), fun _ => (P2.out.step (drewn _ nn_)), fun _ => (P3.out.step (drewn _ nn_)), fun _ => (P4.out.step (drewn _ nn_)), fun _ => (P5.out.step (drewn _ nn_)), fun _ => (P6.out.step (drewn _ nn_)), Q_X2_, Q_X4_, Q_X13_, Q_X15_, Q_X25_, Q_X27_⟩
    refine steps_cons ?_ ?_
    · rintro b a w' ⟨A1, c1, A2, c2, A3, c3, A4, c4, A5, c5, A6, c6, m2_, m4_, m13_, m15_, m25_, m27_, ha, Q_HB, Q_BX, Q_P1, Q_P2, Q_P3, Q_P4, Q_P5, Q_P6, Q_X2_, Q_X4_, Q_X13_, Q_X15_, Q_X25_, Q_X27_⟩ hb_ hon hoff
      refine ⟨_, rfl, fun K hK => ?_⟩
      have e10 : a.tmps[10]? = some (.pointer (some ⟨w.heap.size, 0, none⟩)) := by rw [ha]; exact (putSel_off rfl).trans rfl
      have e46 : a.tmps[46]? = some (.bool true) := by rw [ha]; exact putSel_on (e := (22, 46, .bool true)) 22 rfl rfl (hon 22 (by kernel_rfl)) rfl
      replace ha := Aside0.mk ha
      have HB := Aside0.mk Q_HB
      have BX := Aside0.mk Q_BX
      have P1 := Aside0.mk (Q_P1 (hon 2 (by kernel_rfl)))
      have P2 := Aside0.mk (Q_P2 (hon 4 (by kernel_rfl)))
      have P3 := Aside0.mk (Q_P3 (hon 13 (by kernel_rfl)))
      have P4 := Aside0.mk (Q_P4 (hon 15 (by kernel_rfl)))
      obtain ⟨_, d1, d2, d3, d4⟩ := BX.out
      refine value_ (w1 := w') (v := .agg #[.int .u64 m, .int .i64 n]) (wanted_on rfl rfl rfl (e46.trans (by first | rfl | (simp [*]; done)))) rfl ?_ ?_
      · go_simp
        (try simp only [i64_w])
        try rfl
      refine hK.out _ _ ⟨A1, c1, A2, c2, A3, c3, A4, c4, A5, c5, A6, c6, m2_, m4_, m13_, m15_, m25_, m27_, (by rw [ha.out]; exact putSel_upk 29 hb_ rfl rfl rfl), Q_HB, Q_BX, Q_P1, Q_P2, Q_P3, Q_P4, Q_P5, Q_P6, Q_X2_, Q_X4_, Q_X13_, Q_X15_, Q_X25_, Q_X27_⟩
    refine steps_cons ?_ ?_
    · rintro b a w' ⟨A1, c1, A2, c2, A3, c3, A4, c4, A5, c5, A6, c6, m2_, m4_, m13_, m15_, m25_, m27_, ha, Q_HB, Q_BX, Q_P1, Q_P2, Q_P3, Q_P4, Q_P5, Q_P6, Q_X2_, Q_X4_, Q_X13_, Q_X15_, Q_X25_, Q_X27_⟩ hb_ hon hoff
      refine ⟨_, rfl, fun K hK => ?_⟩
      have e11 : a.tmps[11]? = some (.pointer (some ⟨w.heap.size + 1, 0, none⟩)) := by rw [ha]; exact (putSel_off rfl).trans rfl
      have e46 : a.tmps[46]? = some (.bool true) := by rw [ha]; exact putSel_on (e := (22, 46, .bool true)) 22 rfl rfl (hon 22 (by kernel_rfl)) rfl
      replace ha := Aside0.mk ha
      have HB := Aside0.mk Q_HB
      have BX := Aside0.mk Q_BX
      have P1 := Aside0.mk (Q_P1 (hon 2 (by kernel_rfl)))
      have P2 := Aside0.mk (Q_P2 (hon 4 (by kernel_rfl)))
      have P3 := Aside0.mk (Q_P3 (hon 13 (by kernel_rfl)))
      have P4 := Aside0.mk (Q_P4 (hon 15 (by kernel_rfl)))
      obtain ⟨_, d1, d2, d3, d4⟩ := BX.out
      refine value_ (w1 := w') (v := .agg #[.int .u64 m', .int .i64 n']) (wanted_on rfl rfl rfl (e46.trans (by first | rfl | (simp [*]; done)))) rfl ?_ ?_
      · go_simp
        (try simp only [i64_w])
        try rfl
      refine hK.out _ _ ⟨A1, c1, A2, c2, A3, c3, A4, c4, A5, c5, A6, c6, m2_, m4_, m13_, m15_, m25_, m27_, (by rw [ha.out]; exact putSel_upk 30 hb_ rfl rfl rfl), Q_HB, Q_BX, Q_P1, Q_P2, Q_P3, Q_P4, Q_P5, Q_P6, Q_X2_, Q_X4_, Q_X13_, Q_X15_, Q_X25_, Q_X27_⟩
    refine steps_cons ?_ ?_
    · rintro b a w' ⟨A1, c1, A2, c2, A3, c3, A4, c4, A5, c5, A6, c6, m2_, m4_, m13_, m15_, m25_, m27_, ha, Q_HB, Q_BX, Q_P1, Q_P2, Q_P3, Q_P4, Q_P5, Q_P6, Q_X2_, Q_X4_, Q_X13_, Q_X15_, Q_X25_, Q_X27_⟩ hb_ hon hoff
      refine ⟨_, rfl, fun K hK => ?_⟩
      have e53 : a.tmps[53]? = some (.agg #[.int .u64 m, .int .i64 n]) := by rw [ha]; exact putSel_on (e := (29, 53, .agg #[.int .u64 m, .int .i64 n])) 29 rfl rfl (hon 29 (by kernel_rfl)) rfl
      have e54 : a.tmps[54]? = some (.agg #[.int .u64 m', .int .i64 n']) := by rw [ha]; exact putSel_on (e := (30, 54, .agg #[.int .u64 m', .int .i64 n'])) 30 rfl rfl (hon 30 (by kernel_rfl)) rfl
      have e46 : a.tmps[46]? = some (.bool true) := by rw [ha]; exact putSel_on (e := (22, 46, .bool true)) 22 rfl rfl (hon 22 (by kernel_rfl)) rfl
      replace ha := Aside0.mk ha
      have HB := Aside0.mk Q_HB
      have BX := Aside0.mk Q_BX
      have P1 := Aside0.mk (Q_P1 (hon 2 (by kernel_rfl)))
      have P2 := Aside0.mk (Q_P2 (hon 4 (by kernel_rfl)))
      have P3 := Aside0.mk (Q_P3 (hon 13 (by kernel_rfl)))
      have P4 := Aside0.mk (Q_P4 (hon 15 (by kernel_rfl)))
      refine value_ (w1 := w') (v := .bool q3) (wanted_on rfl rfl rfl (e46.trans (by first | rfl | (simp [*]; done)))) rfl ?_ ?_
      · go_simp
        (try simp only [i64_w])
        try rfl
      refine hK.out _ _ ⟨A1, c1, A2, c2, A3, c3, A4, c4, A5, c5, A6, c6, m2_, m4_, m13_, m15_, m25_, m27_, (by rw [ha.out]; exact putSel_upk 31 hb_ rfl rfl rfl), Q_HB, Q_BX, Q_P1, Q_P2, Q_P3, Q_P4, Q_P5, Q_P6, Q_X2_, Q_X4_, Q_X13_, Q_X15_, Q_X25_, Q_X27_⟩
    refine steps_cons ?_ ?_
    · rintro b a w' ⟨A1, c1, A2, c2, A3, c3, A4, c4, A5, c5, A6, c6, m2_, m4_, m13_, m15_, m25_, m27_, ha, Q_HB, Q_BX, Q_P1, Q_P2, Q_P3, Q_P4, Q_P5, Q_P6, Q_X2_, Q_X4_, Q_X13_, Q_X15_, Q_X25_, Q_X27_⟩ hb_ hon hoff
      refine ⟨_, rfl, fun K hK => ?_⟩
      have e52 : a.tmps[52]? = some (.bool q3) := by rw [ha]; exact putSel_on (e := (28, 52, .bool q3)) 28 rfl rfl (hon 28 (by kernel_rfl)) rfl
      have e55 : a.tmps[55]? = some (.bool q3) := by rw [ha]; exact putSel_on (e := (31, 55, .bool q3)) 31 rfl rfl (hon 31 (by kernel_rfl)) rfl
      have e46 : a.tmps[46]? = some (.bool true) := by rw [ha]; exact putSel_on (e := (22, 46, .bool true)) 22 rfl rfl (hon 22 (by kernel_rfl)) rfl
      replace ha := Aside0.mk ha
      have HB := Aside0.mk Q_HB
      have BX := Aside0.mk Q_BX
      have P1 := Aside0.mk (Q_P1 (hon 2 (by kernel_rfl)))
      have P2 := Aside0.mk (Q_P2 (hon 4 (by kernel_rfl)))
      have P3 := Aside0.mk (Q_P3 (hon 13 (by kernel_rfl)))
      have P4 := Aside0.mk (Q_P4 (hon 15 (by kernel_rfl)))
      have P5 := Aside0.mk (Q_P5 (hon 25 (by kernel_rfl)))
      have P6 := Aside0.mk (Q_P6 (hon 27 (by kernel_rfl)))
      refine value_ (w1 := w') (v := .bool true) (wanted_on rfl rfl rfl (e46.trans (by first | rfl | (simp [*]; done)))) rfl ?_ ?_
      · go_simp
        (try simp only [i64_w])
        try rfl
      refine hK.out _ _ ⟨A1, c1, A2, c2, A3, c3, A4, c4, A5, c5, A6, c6, m2_, m4_, m13_, m15_, m25_, m27_, (by rw [ha.out]; exact putSel_upk 32 hb_ rfl rfl rfl), Q_HB, Q_BX, Q_P1, Q_P2, Q_P3, Q_P4, Q_P5, Q_P6, Q_X2_, Q_X4_, Q_X13_, Q_X15_, Q_X25_, Q_X27_⟩
    refine steps_cons ?_ ?_
    · rintro b a w' ⟨A1, c1, A2, c2, A3, c3, A4, c4, A5, c5, A6, c6, m2_, m4_, m13_, m15_, m25_, m27_, ha, Q_HB, Q_BX, Q_P1, Q_P2, Q_P3, Q_P4, Q_P5, Q_P6, Q_X2_, Q_X4_, Q_X13_, Q_X15_, Q_X25_, Q_X27_⟩ hb_ hon hoff
      refine ⟨_, rfl, fun K hK => ?_⟩
      have e46 : a.tmps[46]? = some (.bool true) := by rw [ha]; exact putSel_on (e := (22, 46, .bool true)) 22 rfl rfl (hon 22 (by kernel_rfl)) rfl
      have e56 : a.tmps[56]? = some (.bool true) := by rw [ha]; exact putSel_on (e := (32, 56, .bool true)) 32 rfl rfl (hon 32 (by kernel_rfl)) rfl
      replace ha := Aside0.mk ha
      have HB := Aside0.mk Q_HB
      have BX := Aside0.mk Q_BX
      have P1 := Aside0.mk (Q_P1 (hon 2 (by kernel_rfl)))
      have P2 := Aside0.mk (Q_P2 (hon 4 (by kernel_rfl)))
      have P3 := Aside0.mk (Q_P3 (hon 13 (by kernel_rfl)))
      have P4 := Aside0.mk (Q_P4 (hon 15 (by kernel_rfl)))
      have P5 := Aside0.mk (Q_P5 (hon 25 (by kernel_rfl)))
      have P6 := Aside0.mk (Q_P6 (hon 27 (by kernel_rfl)))
      refine value_ (w1 := w') (v := .bool true) (by rfl) rfl ?_ ?_
      · go_simp
        (try simp only [i64_w])
        try rfl
      refine hK.out _ _ ⟨A1, c1, A2, c2, A3, c3, A4, c4, A5, c5, A6, c6, m2_, m4_, m13_, m15_, m25_, m27_, (by rw [ha.out]; exact putSel_upk 33 hb_ rfl rfl rfl), Q_HB, Q_BX, Q_P1, Q_P2, Q_P3, Q_P4, Q_P5, Q_P6, Q_X2_, Q_X4_, Q_X13_, Q_X15_, Q_X25_, Q_X27_⟩
    refine steps_cons ?_ ?_
    · rintro b a w' ⟨A1, c1, A2, c2, A3, c3, A4, c4, A5, c5, A6, c6, m2_, m4_, m13_, m15_, m25_, m27_, ha, Q_HB, Q_BX, Q_P1, Q_P2, Q_P3, Q_P4, Q_P5, Q_P6, Q_X2_, Q_X4_, Q_X13_, Q_X15_, Q_X25_, Q_X27_⟩ hb_ hon hoff
      refine ⟨_, rfl, fun K hK => ?_⟩
      have e57 : a.tmps[57]? = some (.bool true) := by rw [ha]; exact putSel_on (e := (33, 57, .bool true)) 33 rfl rfl (hon 33 (by kernel_rfl)) rfl
      replace ha := Aside0.mk ha
      have HB := Aside0.mk Q_HB
      have BX := Aside0.mk Q_BX
      have P1 := Aside0.mk (Q_P1 (hon 2 (by kernel_rfl)))
      have P2 := Aside0.mk (Q_P2 (hon 4 (by kernel_rfl)))
      have P3 := Aside0.mk (Q_P3 (hon 13 (by kernel_rfl)))
      have P4 := Aside0.mk (Q_P4 (hon 15 (by kernel_rfl)))
      have P5 := Aside0.mk (Q_P5 (hon 25 (by kernel_rfl)))
      have P6 := Aside0.mk (Q_P6 (hon 27 (by kernel_rfl)))
      refine value_ (w1 := w') (v := .bool true) (by rfl) rfl ?_ ?_
      · go_simp
        (try simp only [i64_w])
        try rfl
      refine hK.out _ _ ⟨A1, c1, A2, c2, A3, c3, A4, c4, A5, c5, A6, c6, m2_, m4_, m13_, m15_, m25_, m27_, (by rw [ha.out]; exact putSel_upk 34 hb_ rfl rfl rfl), Q_HB, Q_BX, Q_P1, Q_P2, Q_P3, Q_P4, Q_P5, Q_P6, Q_X2_, Q_X4_, Q_X13_, Q_X15_, Q_X25_, Q_X27_⟩
    exact steps_nil
  rintro b a w' hall ⟨A1, c1, A2, c2, A3, c3, A4, c4, A5, c5, A6, c6, m2_, m4_, m13_, m15_, m25_, m27_, ha, Q_HB, Q_BX, Q_P1, Q_P2, Q_P3, Q_P4, Q_P5, Q_P6, Q_X2_, Q_X4_, Q_X13_, Q_X15_, Q_X25_, Q_X27_⟩
  clear BX HB
  have hb0_ := hall 0 (by kernel_rfl)
  have hb1_ := hall 1 (by kernel_rfl)
  have hb2_ := hall 2 (by kernel_rfl)
  have hb3_ := hall 3 (by kernel_rfl)
  have hb4_ := hall 4 (by kernel_rfl)
  have hb5_ := hall 5 (by kernel_rfl)
  have hb6_ := hall 6 (by kernel_rfl)
  have hb7_ := hall 7 (by kernel_rfl)
  have hb8_ := hall 8 (by kernel_rfl)
  have hb9_ := hall 9 (by kernel_rfl)
  have hb10_ := hall 10 (by kernel_rfl)
  have hb11_ := hall 11 (by kernel_rfl)
  have hb12_ := hall 12 (by kernel_rfl)
  have hb13_ := hall 13 (by kernel_rfl)
  have hb14_ := hall 14 (by kernel_rfl)
  have hb15_ := hall 15 (by kernel_rfl)
  have hb16_ := hall 16 (by kernel_rfl)
  have hb17_ := hall 17 (by kernel_rfl)
  have hb18_ := hall 18 (by kernel_rfl)
  have hb19_ := hall 19 (by kernel_rfl)
  have hb20_ := hall 20 (by kernel_rfl)
  have hb21_ := hall 21 (by kernel_rfl)
  have hb22_ := hall 22 (by kernel_rfl)
  have hb23_ := hall 23 (by kernel_rfl)
  have hb24_ := hall 24 (by kernel_rfl)
  have hb25_ := hall 25 (by kernel_rfl)
  have hb26_ := hall 26 (by kernel_rfl)
  have hb27_ := hall 27 (by kernel_rfl)
  have hb28_ := hall 28 (by kernel_rfl)
  have hb29_ := hall 29 (by kernel_rfl)
  have hb30_ := hall 30 (by kernel_rfl)
  have hb31_ := hall 31 (by kernel_rfl)
  have hb32_ := hall 32 (by kernel_rfl)
  have hb33_ := hall 33 (by kernel_rfl)
  have hb34_ := hall 34 (by kernel_rfl)
  subst ha
  obtain rfl := Q_X2_ hb2_
  obtain rfl := Q_X4_ hb4_
  obtain rfl := Q_X13_ hb13_
  obtain rfl := Q_X15_ hb15_
  obtain rfl := Q_X25_ hb25_
  obtain rfl := Q_X27_ hb27_
  simp only [putSel, hb0_, hb1_, hb2_, hb3_, hb4_, hb5_, hb6_, hb7_, hb8_, hb9_, hb10_, hb11_, hb12_, hb13_, hb14_, hb15_, hb16_, hb17_, hb18_, hb19_, hb20_, hb21_, hb22_, hb23_, hb24_, hb25_, hb26_, hb27_, hb28_, hb29_, hb30_, hb31_, hb32_, hb33_, hb34_, if_true, Act.put, List.setIfInBounds_toArray, List.set_cons_zero, List.set_cons_succ]
  have HB := Aside0.mk Q_HB
  clear Q_HB
  have BX := Aside0.mk Q_BX
  clear Q_BX
  have P1 := Aside0.mk (Q_P1 hb2_)
  clear Q_P1
  have P2 := Aside0.mk (Q_P2 hb4_)
  clear Q_P2
  have P3 := Aside0.mk (Q_P3 hb13_)
  clear Q_P3
  have P4 := Aside0.mk (Q_P4 hb15_)
  clear Q_P4
  have P5 := Aside0.mk (Q_P5 hb25_)
  clear Q_P5
  have P6 := Aside0.mk (Q_P6 hb27_)
  clear Q_P6
  clear hall hb0_ hb1_ hb2_ hb3_ hb4_ hb5_ hb6_ hb7_ hb8_ hb9_ hb10_ hb11_ hb12_ hb13_ hb14_ hb15_ hb16_ hb17_ hb18_ hb19_ hb20_ hb21_ hb22_ hb23_ hb24_ hb25_ hb26_ hb27_ hb28_ hb29_ hb30_ hb31_ hb32_ hb33_ hb34_
  go_wp2
  go_ret
  exact ⟨rfl, HB.out⟩

theorem law_big (xa xb : Int) (s t : ByteArray) (m n m' n' : Int) (w : World) (h : 200 < s.size ∨ 200 < t.size) (hs : s.size ≤ 140737488351232) (ht : t.size ≤ 140737488351232) :
    Calls Try.prog 4 #[.int .u64 xa, .int .u64 xb, .string s, .string t, .agg #[.int .u64 m, .int .i64 n], .agg #[.int .u64 m', .int .i64 n']] w fun e w' => e = .returned (.bool true) ∧ Below w.heap.size w w' := by
  have K : decide ((200 : Int) < (s.size : Int)) = true ∨ decide ((200 : Int) < (s.size : Int)) = false ∧ decide ((200 : Int) < (t.size : Int)) = true := by
    by_cases h1 : 200 < s.size
    · exact .inl (decide_eq_true (by omega))
    · exact .inr ⟨decide_eq_false (by omega), decide_eq_true (by omega)⟩
  clear h hs ht
  rcases K with k1 | ⟨k1, k2⟩
  all_goals
    go_enter Try.func4, Try.ntmps4
    go_wp2_with (go_at_call 15; refine (head_ok _).mono ?_; rintro e w1 ⟨rfl, hb1⟩; have HB := Aside0.mk (below_step (below_alloc (below_alloc (Below.refl _ _) _) _) hb1); clear hb1)
    go_ret
    exact ⟨rfl, HB.out⟩

theorem bool_of {p : Bool} {q : Prop} [Decidable q] (h : p = true ↔ q) : p = decide q := by
  rw [Bool.eq_iff_iff, h, decide_eq_true_eq]

theorem law_ok (a b : Int) (s t : ByteArray) (m n m' n' : Int) (w : World) (ha : (Lit.int .u64 a).wf = true) (hb : (Lit.int .u64 b).wf = true) (hs : s.size ≤ 140737488351232) (ht : t.size ≤ 140737488351232)
    (hm : (Lit.int .u64 m).wf = true) (hn : (Lit.int .i64 n).wf = true) (hm' : (Lit.int .u64 m').wf = true) (hn' : (Lit.int .i64 n').wf = true) :
    Calls Try.prog 4 #[.int .u64 a, .int .u64 b, .string s, .string t, .agg #[.int .u64 m, .int .i64 n], .agg #[.int .u64 m', .int .i64 n']] w fun e w' => e = .returned (.bool true) ∧ Below w.heap.size w w' := by
  by_cases h : 200 < s.size ∨ 200 < t.size
  · exact law_big a b s t m n m' n' w h hs ht
  · have ha2 := bounds_u64 ha
    have hb2 := bounds_u64 hb
    have hm2 := bounds_u64 hm
    have hm2' := bounds_u64 hm'
    have hn2 := bounds_i64 hn
    have hn2' := bounds_i64 hn'
    obtain ⟨a, rfl⟩ := Int.eq_ofNat_of_zero_le ha2.1
    obtain ⟨b, rfl⟩ := Int.eq_ofNat_of_zero_le hb2.1
    refine law_small a b s t m n m' n' (decide (a = b)) (decide (s = t)) (decide (m = m' ∧ n = n')) w ⟨by omega⟩ ⟨by omega⟩ ⟨hm2.1⟩ ⟨by omega⟩ ⟨hm2'.1⟩ ⟨by omega⟩ (by omega) (by omega) ?_ ?_ ?_ ⟨bool_of (begins_put a b)⟩ ⟨bool_of (begins_text s t)⟩ ⟨bool_of (begins_tid m n m' n' hm2.1 hm2'.1 hn2 hn2')⟩
    · rw [Bool.eq_iff_iff, beq_iff_eq, decide_eq_true_eq]; omega
    · rw [Bool.eq_iff_iff, beq_iff_eq, decide_eq_true_eq]; exact toList_inj
    · rw [Bool.eq_iff_iff, Bool.and_eq_true, beq_iff_eq, beq_iff_eq, decide_eq_true_eq]

end Go.Proofs.Ytolcmjoapnldiaa.NumApart
