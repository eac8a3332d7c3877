/- A page in memory, and (page.Page).Same, walked way by way. Conditions: slices of a thousand elements at the most. -/
import Derived.Test.YtopfaeefhicljaaP10
import Derived.Test.YtopfaeefhicljaaP11
import Derived.Test.YtopfaeefhicljaaPgEnc
import Derived.Test.YtopfaeefhicljaaWKept
namespace Go.Proofs.Ytopfaeefhicljaa.Q
open Go Go.RowKit Go.Proofs.YtopfaeefhicljaaW.PrintWords Go.Proofs.Ytopfaeefhicljaa.Leb Go.Proofs.Ytopfaeefhicljaa.Str
set_option linter.unusedVariables false
set_option linter.unusedSimpArgs false

/-! ### when two pages are the same -/
theorem eqs_l0 (a b : List ByteArray) (hl : a.length = b.length) (hs : a.length < 1000000) : ∀ (d i k : Nat), i + d = a.length → d < k →
    slices_Equal_string_string.l0 k a b (a.length : Int) (i : Int) = some (decide (a.drop i = b.drop i)) := by
  intro d
  induction d with
  | zero =>
    intro i k h hk
    obtain ⟨k, rfl⟩ : ∃ m, k = m + 1 := ⟨k - 1, by omega⟩
    simp only [slices_Equal_string_string.l0]
    rw [if_neg (by omega), List.drop_of_length_le (by omega), List.drop_of_length_le (by omega)]
    simp
  | succ d ih =>
    intro i k h hk
    obtain ⟨k, rfl⟩ : ∃ m, k = m + 1 := ⟨k - 1, by omega⟩
    simp only [slices_Equal_string_string.l0]
    have e1 : rdOf ByteArray.empty a (i : Int) = a.getD i ByteArray.empty := by simp [rdOf]
    have e2 : rdOf ByteArray.empty b (i : Int) = b.getD i ByteArray.empty := by simp [rdOf]
    rw [if_pos (by omega), if_pos (by omega), if_pos (by omega), if_pos (by omega), e1, e2, succ64 i (by omega), ih (i + 1) k (by omega) (by omega), drop_cons a i ByteArray.empty (by omega), drop_cons b i ByteArray.empty (by omega)]
    by_cases c : a.getD i ByteArray.empty = b.getD i ByteArray.empty
    · rw [if_pos (by rw [c]), c]
      simp
    · rw [if_neg (fun h => c (toList_inj.1 h))]
      simp only [List.cons.injEq, c, false_and, decide_false]

theorem eqs_f (k : Nat) (a b : List ByteArray) (hs : a.length < 1000000) (hk : a.length < k) : slices_Equal_string_string.f k a b = some (decide (a = b)) := by
  unfold slices_Equal_string_string.f
  by_cases c : a.length = b.length
  · rw [if_pos (by omega)]
    exact eqs_l0 a b c hs a.length 0 k (by omega) hk
  · rw [if_neg (by omega)]
    have : ¬ a = b := fun h => c (by rw [h])
    simp [this]

theorem eqi_l0 (a b : List Int) (hl : a.length = b.length) (hs : a.length < 1000000) : ∀ (d i k : Nat), i + d = a.length → d < k →
    slices_Equal_int_int.l0 k a b (a.length : Int) (i : Int) = some (decide (a.drop i = b.drop i)) := by
  intro d
  induction d with
  | zero =>
    intro i k h hk
    obtain ⟨k, rfl⟩ : ∃ m, k = m + 1 := ⟨k - 1, by omega⟩
    simp only [slices_Equal_int_int.l0]
    rw [if_neg (by omega), List.drop_of_length_le (by omega), List.drop_of_length_le (by omega)]
    simp
  | succ d ih =>
    intro i k h hk
    obtain ⟨k, rfl⟩ : ∃ m, k = m + 1 := ⟨k - 1, by omega⟩
    simp only [slices_Equal_int_int.l0]
    have e1 : rd a (i : Int) = a.getD i 0 := by simp [rd]
    have e2 : rd b (i : Int) = b.getD i 0 := by simp [rd]
    rw [if_pos (by omega), if_pos (by omega), if_pos (by omega), if_pos (by omega), e1, e2, succ64 i (by omega), ih (i + 1) k (by omega) (by omega), drop_cons a i 0 (by omega), drop_cons b i 0 (by omega)]
    by_cases c : a.getD i 0 = b.getD i 0
    · rw [if_pos c, c]
      simp
    · rw [if_neg c]
      simp only [List.cons.injEq, c, false_and, decide_false]

theorem eqi_f (k : Nat) (a b : List Int) (hs : a.length < 1000000) (hk : a.length < k) : slices_Equal_int_int.f k a b = some (decide (a = b)) := by
  unfold slices_Equal_int_int.f
  by_cases c : a.length = b.length
  · rw [if_pos (by omega)]
    exact eqi_l0 a b c hs a.length 0 k (by omega) hk
  · rw [if_neg (by omega)]
    have : ¬ a = b := fun h => c (by rw [h])
    simp [this]

def sameB (p q : PgV) : Bool := decide (p.kind = q.kind) && (decide (p.keys = q.keys) && (decide (p.vals = q.vals) && (decide (p.kids = q.kids) && (decide (p.root = q.root) && (decide (p.next = q.next) && (decide (p.size = q.size) && decide (p.idle = q.idle)))))))

theorem sameB_iff (p q : PgV) : sameB p q = true ↔ p = q := by
  obtain ⟨a1, a2, a3, a4, a5, a6, a7, a8⟩ := p
  obtain ⟨b1, b2, b3, b4, b5, b6, b7, b8⟩ := q
  unfold sameB
  simp only [Bool.and_eq_true, decide_eq_true_eq, PgV.mk.injEq]

/-! ### a page in memory -/
def PgV.lay (p : PgV) (A1 : Option Addr) (c1 : Nat) (A2 : Option Addr) (c2 : Nat) (A3 : Option Addr) (c3 : Nat) : Value :=
  .agg #[.int .i64 p.kind, .slice A1 p.keys.length c1, .slice A2 p.vals.length c2, .slice A3 p.kids.length c3, .int .i64 p.root, .int .i64 p.next, .int .i64 p.size, .int .i64 p.idle]
/-- A page's slices are read. -/
structure PgR (w : World) (p : PgV) (A1 : Option Addr) (c1 : Nat) (A2 : Option Addr) (c2 : Nat) (A3 : Option Addr) (c3 : Nat) : Prop where
  r1 : Kd.C Kd.string w A1 p.keys.length p.keys
  l1 : p.keys.length ≤ c1
  r2 : Kd.C Kd.string w A2 p.vals.length p.vals
  l2 : p.vals.length ≤ c2
  r3 : Kd.C (Kd.int .i64) w A3 p.kids.length p.kids
  l3 : p.kids.length ≤ c3
theorem PgR.below {w w1 : World} {p : PgV} {A1 A2 A3 : Option Addr} {c1 c2 c3 : Nat} (h : PgR w p A1 c1 A2 c2 A3 c3) (hb : Below w.heap.size w w1) : PgR w1 p A1 c1 A2 c2 A3 c3 :=
  ⟨Kd.C_below h.r1 hb, h.l1, Kd.C_below h.r2 hb, h.l2, Kd.C_below h.r3 hb, h.l3⟩
/-- A box of a page. -/
structure PBox (p : PgV) (A1 : Option Addr) (c1 : Nat) (A2 : Option Addr) (c2 : Nat) (A3 : Option Addr) (c3 : Nat) (k : Nat) (W : World) : Prop where
  lt : k < W.heap.size
  d0 : W.cell? ⟨k, 0, none⟩ = some (.int .i64 p.kind)
  d1 : W.cell? ⟨k, 1, none⟩ = some (.slice A1 p.keys.length c1)
  d2 : W.cell? ⟨k, 2, none⟩ = some (.slice A2 p.vals.length c2)
  d3 : W.cell? ⟨k, 3, none⟩ = some (.slice A3 p.kids.length c3)
  d4 : W.cell? ⟨k, 4, none⟩ = some (.int .i64 p.root)
  d5 : W.cell? ⟨k, 5, none⟩ = some (.int .i64 p.next)
  d6 : W.cell? ⟨k, 6, none⟩ = some (.int .i64 p.size)
  d7 : W.cell? ⟨k, 7, none⟩ = some (.int .i64 p.idle)
section
variable {p : PgV} {A1 A2 A3 : Option Addr} {c1 c2 c3 k : Nat}
theorem PBox.below {W W1 : World} (h : PBox p A1 c1 A2 c2 A3 c3 k W) (hb : Below W.heap.size W W1) : PBox p A1 c1 A2 c2 A3 c3 k W1 := by
  have := hb.size
  have hl := h.lt
  have f : ∀ j, W1.cell? ⟨k, j, none⟩ = W.cell? ⟨k, j, none⟩ := fun j => hb.cell (p := ⟨k, j, none⟩) (by simp; omega)
  exact ⟨by omega, by rw [f]; exact h.d0, by rw [f]; exact h.d1, by rw [f]; exact h.d2, by rw [f]; exact h.d3, by rw [f]; exact h.d4, by rw [f]; exact h.d5, by rw [f]; exact h.d6, by rw [f]; exact h.d7⟩
end
theorem PBox.new (p : PgV) (A1 : Option Addr) (c1 : Nat) (A2 : Option Addr) (c2 : Nat) (A3 : Option Addr) (c3 : Nat) (w : World) :
    PBox p A1 c1 A2 c2 A3 c3 w.heap.size (w.alloc (.cells #[.int .i64 p.kind, .slice A1 p.keys.length c1, .slice A2 p.vals.length c2, .slice A3 p.kids.length c3, .int .i64 p.root, .int .i64 p.next, .int .i64 p.size, .int .i64 p.idle] 27)) := by
  have b1 : (w.alloc (.cells #[.int .i64 p.kind, .slice A1 p.keys.length c1, .slice A2 p.vals.length c2, .slice A3 p.kids.length c3, .int .i64 p.root, .int .i64 p.next, .int .i64 p.size, .int .i64 p.idle] 27)).heap[w.heap.size]? = some (.cells #[.int .i64 p.kind, .slice A1 p.keys.length c1, .slice A2 p.vals.length c2, .slice A3 p.kids.length c3, .int .i64 p.root, .int .i64 p.next, .int .i64 p.size, .int .i64 p.idle] 27) := blk_new w _
  exact ⟨by simp, (blk_cell b1 0).trans rfl, (blk_cell b1 1).trans rfl, (blk_cell b1 2).trans rfl, (blk_cell b1 3).trans rfl, (blk_cell b1 4).trans rfl, (blk_cell b1 5).trans rfl, (blk_cell b1 6).trans rfl, (blk_cell b1 7).trans rfl⟩

/-- Two boxes, one behind the other. -/
theorem boxes (p q : PgV) (A1 : Option Addr) (c1 : Nat) (A2 : Option Addr) (c2 : Nat) (A3 : Option Addr) (c3 : Nat) (B1 : Option Addr) (e1 : Nat) (B2 : Option Addr) (e2 : Nat) (B3 : Option Addr) (e3 : Nat) (w : World) :
    PBox p A1 c1 A2 c2 A3 c3 w.heap.size ((w.alloc (.cells #[.int .i64 p.kind, .slice A1 p.keys.length c1, .slice A2 p.vals.length c2, .slice A3 p.kids.length c3, .int .i64 p.root, .int .i64 p.next, .int .i64 p.size, .int .i64 p.idle] 27)).alloc (.cells #[.int .i64 q.kind, .slice B1 q.keys.length e1, .slice B2 q.vals.length e2, .slice B3 q.kids.length e3, .int .i64 q.root, .int .i64 q.next, .int .i64 q.size, .int .i64 q.idle] 27)) ∧ PBox q B1 e1 B2 e2 B3 e3 (w.heap.size + 1) ((w.alloc (.cells #[.int .i64 p.kind, .slice A1 p.keys.length c1, .slice A2 p.vals.length c2, .slice A3 p.kids.length c3, .int .i64 p.root, .int .i64 p.next, .int .i64 p.size, .int .i64 p.idle] 27)).alloc (.cells #[.int .i64 q.kind, .slice B1 q.keys.length e1, .slice B2 q.vals.length e2, .slice B3 q.kids.length e3, .int .i64 q.root, .int .i64 q.next, .int .i64 q.size, .int .i64 q.idle] 27)) := by
  refine ⟨(PBox.new p A1 c1 A2 c2 A3 c3 w).below (below_alloc (Below.refl _ _) _), ?_⟩
  have := PBox.new q B1 e1 B2 e2 B3 e3 (w.alloc (.cells #[.int .i64 p.kind, .slice A1 p.keys.length c1, .slice A2 p.vals.length c2, .slice A3 p.kids.length c3, .int .i64 p.root, .int .i64 p.next, .int .i64 p.size, .int .i64 p.idle] 27))
  simpa using this

theorem eqs_ok {a b : List ByteArray} {A B : Option Addr} {c e : Nat} {w : World} {r : Bool} (ha : Kd.C Kd.string w A a.length a) (hc : a.length ≤ c) (hb : Kd.C Kd.string w B b.length b) (he : b.length ≤ e) (hl : a.length ≤ 1000) (h : decide (a = b) = r) :
    Calls Try.prog 45 #[.slice A a.length c, .slice B b.length e] w fun en w' => en = .returned (.bool r) ∧ ∃ n, w' = w.drewN n :=
  (slices_Equal_string_string.calls 1001 A c a B e b r w ha hc hb he (by rw [eqs_f 1001 a b (by omega) (by omega), h])).mono fun _ _ ⟨h1, h2⟩ => ⟨h1, h2.out⟩
theorem eqi_ok {a b : List Int} {A B : Option Addr} {c e : Nat} {w : World} {r : Bool} (ha : Kd.C (Kd.int .i64) w A a.length a) (hc : a.length ≤ c) (hb : Kd.C (Kd.int .i64) w B b.length b) (he : b.length ≤ e) (hl : a.length ≤ 1000) (h : decide (a = b) = r) :
    Calls Try.prog 46 #[.slice A a.length c, .slice B b.length e] w fun en w' => en = .returned (.bool r) ∧ ∃ n, w' = w.drewN n :=
  (slices_Equal_int_int.calls 1001 A c a B e b r w ha hc hb he (by rw [eqi_f 1001 a b (by omega) (by omega), h])).mono fun _ _ ⟨h1, h2⟩ => ⟨h1, h2.out⟩

set_option maxHeartbeats 1000000 in
set_option maxRecDepth 100000 in
theorem same_w0 {p q : PgV} {A1 A2 A3 B1 B2 B3 : Option Addr} {c1 c2 c3 e1 e2 e3 : Nat} {w : World} (hR : PgR w p A1 c1 A2 c2 A3 c3) (hQ : PgR w q B1 e1 B2 e2 B3 e3) (h1 : p.keys.length ≤ 1000) (h2 : p.vals.length ≤ 1000) (h3 : p.kids.length ≤ 1000) (b0 : (p.kind == q.kind) = false) :
    Calls Try.prog 20 #[p.lay A1 c1 A2 c2 A3 c3, q.lay B1 e1 B2 e2 B3 e3] w fun e w' => e = .returned (.bool false) ∧ Below w.heap.size w w' := by
  have HR := Aside0.mk hR
  have HQ := Aside0.mk hQ
  clear hR hQ
  unfold PgV.lay
  go_enter Try.func20, Try.ntmps20
  go_wp2
  go_ret
  exact ⟨by first | rfl | simp [*], by repeat (first | exact Below.refl _ _ | apply below_alloc | apply pw_below_drewN)⟩

set_option maxHeartbeats 1000000 in
set_option maxRecDepth 100000 in
theorem same_w1 {p q : PgV} {A1 A2 A3 B1 B2 B3 : Option Addr} {c1 c2 c3 e1 e2 e3 : Nat} {w : World} (hR : PgR w p A1 c1 A2 c2 A3 c3) (hQ : PgR w q B1 e1 B2 e2 B3 e3) (h1 : p.keys.length ≤ 1000) (h2 : p.vals.length ≤ 1000) (h3 : p.kids.length ≤ 1000) (b0 : (p.kind == q.kind) = true) (b1 : decide (p.keys = q.keys) = false) :
    Calls Try.prog 20 #[p.lay A1 c1 A2 c2 A3 c3, q.lay B1 e1 B2 e2 B3 e3] w fun e w' => e = .returned (.bool false) ∧ Below w.heap.size w w' := by
  have HR := Aside0.mk hR
  have HQ := Aside0.mk hQ
  clear hR hQ
  have K1 := Aside0.mk b1
  clear b1
  unfold PgV.lay
  go_enter Try.func20, Try.ntmps20
  go_wp2_with fail
  refine (eqs_ok (Kd.C_below HR.out.r1 (by repeat (first | exact Below.refl _ _ | apply below_alloc | apply pw_below_drewN))) HR.out.l1 (Kd.C_below HQ.out.r1 (by repeat (first | exact Below.refl _ _ | apply below_alloc | apply pw_below_drewN))) HQ.out.l1 h1 K1.out).mono ?_
  rintro e w1 ⟨rfl, n1, rfl⟩
  go_wp2
  go_ret
  exact ⟨by first | rfl | simp [*], by repeat (first | exact Below.refl _ _ | apply below_alloc | apply pw_below_drewN)⟩

set_option maxHeartbeats 1000000 in
set_option maxRecDepth 100000 in
theorem same_w2 {p q : PgV} {A1 A2 A3 B1 B2 B3 : Option Addr} {c1 c2 c3 e1 e2 e3 : Nat} {w : World} (hR : PgR w p A1 c1 A2 c2 A3 c3) (hQ : PgR w q B1 e1 B2 e2 B3 e3) (h1 : p.keys.length ≤ 1000) (h2 : p.vals.length ≤ 1000) (h3 : p.kids.length ≤ 1000) (b0 : (p.kind == q.kind) = true) (b1 : decide (p.keys = q.keys) = true) (b2 : decide (p.vals = q.vals) = false) :
    Calls Try.prog 20 #[p.lay A1 c1 A2 c2 A3 c3, q.lay B1 e1 B2 e2 B3 e3] w fun e w' => e = .returned (.bool false) ∧ Below w.heap.size w w' := by
  have HR := Aside0.mk hR
  have HQ := Aside0.mk hQ
  clear hR hQ
  have K1 := Aside0.mk b1
  clear b1
  have K2 := Aside0.mk b2
  clear b2
  unfold PgV.lay
  go_enter Try.func20, Try.ntmps20
  go_wp2_with fail
  refine (eqs_ok (Kd.C_below HR.out.r1 (by repeat (first | exact Below.refl _ _ | apply below_alloc | apply pw_below_drewN))) HR.out.l1 (Kd.C_below HQ.out.r1 (by repeat (first | exact Below.refl _ _ | apply below_alloc | apply pw_below_drewN))) HQ.out.l1 h1 K1.out).mono ?_
  rintro e w1 ⟨rfl, n1, rfl⟩
  go_wp2_with fail
  refine (eqs_ok (Kd.C_below HR.out.r2 (by repeat (first | exact Below.refl _ _ | apply below_alloc | apply pw_below_drewN))) HR.out.l2 (Kd.C_below HQ.out.r2 (by repeat (first | exact Below.refl _ _ | apply below_alloc | apply pw_below_drewN))) HQ.out.l2 h2 K2.out).mono ?_
  rintro e w2 ⟨rfl, n2, rfl⟩
  go_wp2
  go_ret
  exact ⟨by first | rfl | simp [*], by repeat (first | exact Below.refl _ _ | apply below_alloc | apply pw_below_drewN)⟩

set_option maxHeartbeats 1000000 in
set_option maxRecDepth 100000 in
theorem same_w3 {p q : PgV} {A1 A2 A3 B1 B2 B3 : Option Addr} {c1 c2 c3 e1 e2 e3 : Nat} {w : World} (hR : PgR w p A1 c1 A2 c2 A3 c3) (hQ : PgR w q B1 e1 B2 e2 B3 e3) (h1 : p.keys.length ≤ 1000) (h2 : p.vals.length ≤ 1000) (h3 : p.kids.length ≤ 1000) (b0 : (p.kind == q.kind) = true) (b1 : decide (p.keys = q.keys) = true) (b2 : decide (p.vals = q.vals) = true) (b3 : decide (p.kids = q.kids) = false) :
    Calls Try.prog 20 #[p.lay A1 c1 A2 c2 A3 c3, q.lay B1 e1 B2 e2 B3 e3] w fun e w' => e = .returned (.bool false) ∧ Below w.heap.size w w' := by
  have HR := Aside0.mk hR
  have HQ := Aside0.mk hQ
  clear hR hQ
  have K1 := Aside0.mk b1
  clear b1
  have K2 := Aside0.mk b2
  clear b2
  have K3 := Aside0.mk b3
  clear b3
  unfold PgV.lay
  go_enter Try.func20, Try.ntmps20
  go_wp2_with fail
  refine (eqs_ok (Kd.C_below HR.out.r1 (by repeat (first | exact Below.refl _ _ | apply below_alloc | apply pw_below_drewN))) HR.out.l1 (Kd.C_below HQ.out.r1 (by repeat (first | exact Below.refl _ _ | apply below_alloc | apply pw_below_drewN))) HQ.out.l1 h1 K1.out).mono ?_
  rintro e w1 ⟨rfl, n1, rfl⟩
  go_wp2_with fail
  refine (eqs_ok (Kd.C_below HR.out.r2 (by repeat (first | exact Below.refl _ _ | apply below_alloc | apply pw_below_drewN))) HR.out.l2 (Kd.C_below HQ.out.r2 (by repeat (first | exact Below.refl _ _ | apply below_alloc | apply pw_below_drewN))) HQ.out.l2 h2 K2.out).mono ?_
  rintro e w2 ⟨rfl, n2, rfl⟩
  go_wp2_with fail
  refine (eqi_ok (Kd.C_below HR.out.r3 (by repeat (first | exact Below.refl _ _ | apply below_alloc | apply pw_below_drewN))) HR.out.l3 (Kd.C_below HQ.out.r3 (by repeat (first | exact Below.refl _ _ | apply below_alloc | apply pw_below_drewN))) HQ.out.l3 h3 K3.out).mono ?_
  rintro e w3 ⟨rfl, n3, rfl⟩
  go_wp2
  go_ret
  exact ⟨by first | rfl | simp [*], by repeat (first | exact Below.refl _ _ | apply below_alloc | apply pw_below_drewN)⟩

set_option maxHeartbeats 1000000 in
set_option maxRecDepth 100000 in
theorem same_w4 {p q : PgV} {A1 A2 A3 B1 B2 B3 : Option Addr} {c1 c2 c3 e1 e2 e3 : Nat} {w : World} (hR : PgR w p A1 c1 A2 c2 A3 c3) (hQ : PgR w q B1 e1 B2 e2 B3 e3) (h1 : p.keys.length ≤ 1000) (h2 : p.vals.length ≤ 1000) (h3 : p.kids.length ≤ 1000) (b0 : (p.kind == q.kind) = true) (b1 : decide (p.keys = q.keys) = true) (b2 : decide (p.vals = q.vals) = true) (b3 : decide (p.kids = q.kids) = true) (b4 : (p.root == q.root) = false) :
    Calls Try.prog 20 #[p.lay A1 c1 A2 c2 A3 c3, q.lay B1 e1 B2 e2 B3 e3] w fun e w' => e = .returned (.bool false) ∧ Below w.heap.size w w' := by
  have HR := Aside0.mk hR
  have HQ := Aside0.mk hQ
  clear hR hQ
  have K1 := Aside0.mk b1
  clear b1
  have K2 := Aside0.mk b2
  clear b2
  have K3 := Aside0.mk b3
  clear b3
  unfold PgV.lay
  go_enter Try.func20, Try.ntmps20
  go_wp2_with fail
  refine (eqs_ok (Kd.C_below HR.out.r1 (by repeat (first | exact Below.refl _ _ | apply below_alloc | apply pw_below_drewN))) HR.out.l1 (Kd.C_below HQ.out.r1 (by repeat (first | exact Below.refl _ _ | apply below_alloc | apply pw_below_drewN))) HQ.out.l1 h1 K1.out).mono ?_
  rintro e w1 ⟨rfl, n1, rfl⟩
  go_wp2_with fail
  refine (eqs_ok (Kd.C_below HR.out.r2 (by repeat (first | exact Below.refl _ _ | apply below_alloc | apply pw_below_drewN))) HR.out.l2 (Kd.C_below HQ.out.r2 (by repeat (first | exact Below.refl _ _ | apply below_alloc | apply pw_below_drewN))) HQ.out.l2 h2 K2.out).mono ?_
  rintro e w2 ⟨rfl, n2, rfl⟩
  go_wp2_with fail
  refine (eqi_ok (Kd.C_below HR.out.r3 (by repeat (first | exact Below.refl _ _ | apply below_alloc | apply pw_below_drewN))) HR.out.l3 (Kd.C_below HQ.out.r3 (by repeat (first | exact Below.refl _ _ | apply below_alloc | apply pw_below_drewN))) HQ.out.l3 h3 K3.out).mono ?_
  rintro e w3 ⟨rfl, n3, rfl⟩
  go_wp2
  go_ret
  exact ⟨by first | rfl | simp [*], by repeat (first | exact Below.refl _ _ | apply below_alloc | apply pw_below_drewN)⟩

set_option maxHeartbeats 1000000 in
set_option maxRecDepth 100000 in
theorem same_w5 {p q : PgV} {A1 A2 A3 B1 B2 B3 : Option Addr} {c1 c2 c3 e1 e2 e3 : Nat} {w : World} (hR : PgR w p A1 c1 A2 c2 A3 c3) (hQ : PgR w q B1 e1 B2 e2 B3 e3) (h1 : p.keys.length ≤ 1000) (h2 : p.vals.length ≤ 1000) (h3 : p.kids.length ≤ 1000) (b0 : (p.kind == q.kind) = true) (b1 : decide (p.keys = q.keys) = true) (b2 : decide (p.vals = q.vals) = true) (b3 : decide (p.kids = q.kids) = true) (b4 : (p.root == q.root) = true) (b5 : (p.next == q.next) = false) :
    Calls Try.prog 20 #[p.lay A1 c1 A2 c2 A3 c3, q.lay B1 e1 B2 e2 B3 e3] w fun e w' => e = .returned (.bool false) ∧ Below w.heap.size w w' := by
  have HR := Aside0.mk hR
  have HQ := Aside0.mk hQ
  clear hR hQ
  have K1 := Aside0.mk b1
  clear b1
  have K2 := Aside0.mk b2
  clear b2
  have K3 := Aside0.mk b3
  clear b3
  unfold PgV.lay
  go_enter Try.func20, Try.ntmps20
  go_wp2_with fail
  refine (eqs_ok (Kd.C_below HR.out.r1 (by repeat (first | exact Below.refl _ _ | apply below_alloc | apply pw_below_drewN))) HR.out.l1 (Kd.C_below HQ.out.r1 (by repeat (first | exact Below.refl _ _ | apply below_alloc | apply pw_below_drewN))) HQ.out.l1 h1 K1.out).mono ?_
  rintro e w1 ⟨rfl, n1, rfl⟩
  go_wp2_with fail
  refine (eqs_ok (Kd.C_below HR.out.r2 (by repeat (first | exact Below.refl _ _ | apply below_alloc | apply pw_below_drewN))) HR.out.l2 (Kd.C_below HQ.out.r2 (by repeat (first | exact Below.refl _ _ | apply below_alloc | apply pw_below_drewN))) HQ.out.l2 h2 K2.out).mono ?_
  rintro e w2 ⟨rfl, n2, rfl⟩
  go_wp2_with fail
  refine (eqi_ok (Kd.C_below HR.out.r3 (by repeat (first | exact Below.refl _ _ | apply below_alloc | apply pw_below_drewN))) HR.out.l3 (Kd.C_below HQ.out.r3 (by repeat (first | exact Below.refl _ _ | apply below_alloc | apply pw_below_drewN))) HQ.out.l3 h3 K3.out).mono ?_
  rintro e w3 ⟨rfl, n3, rfl⟩
  go_wp2
  go_ret
  exact ⟨by first | rfl | simp [*], by repeat (first | exact Below.refl _ _ | apply below_alloc | apply pw_below_drewN)⟩

set_option maxHeartbeats 1000000 in
set_option maxRecDepth 100000 in
theorem same_w6 {p q : PgV} {A1 A2 A3 B1 B2 B3 : Option Addr} {c1 c2 c3 e1 e2 e3 : Nat} {w : World} (hR : PgR w p A1 c1 A2 c2 A3 c3) (hQ : PgR w q B1 e1 B2 e2 B3 e3) (h1 : p.keys.length ≤ 1000) (h2 : p.vals.length ≤ 1000) (h3 : p.kids.length ≤ 1000) (b0 : (p.kind == q.kind) = true) (b1 : decide (p.keys = q.keys) = true) (b2 : decide (p.vals = q.vals) = true) (b3 : decide (p.kids = q.kids) = true) (b4 : (p.root == q.root) = true) (b5 : (p.next == q.next) = true) (b6 : (p.size == q.size) = false) :
    Calls Try.prog 20 #[p.lay A1 c1 A2 c2 A3 c3, q.lay B1 e1 B2 e2 B3 e3] w fun e w' => e = .returned (.bool false) ∧ Below w.heap.size w w' := by
  have HR := Aside0.mk hR
  have HQ := Aside0.mk hQ
  clear hR hQ
  have K1 := Aside0.mk b1
  clear b1
  have K2 := Aside0.mk b2
  clear b2
  have K3 := Aside0.mk b3
  clear b3
  unfold PgV.lay
  go_enter Try.func20, Try.ntmps20
  go_wp2_with fail
  refine (eqs_ok (Kd.C_below HR.out.r1 (by repeat (first | exact Below.refl _ _ | apply below_alloc | apply pw_below_drewN))) HR.out.l1 (Kd.C_below HQ.out.r1 (by repeat (first | exact Below.refl _ _ | apply below_alloc | apply pw_below_drewN))) HQ.out.l1 h1 K1.out).mono ?_
  rintro e w1 ⟨rfl, n1, rfl⟩
  go_wp2_with fail
  refine (eqs_ok (Kd.C_below HR.out.r2 (by repeat (first | exact Below.refl _ _ | apply below_alloc | apply pw_below_drewN))) HR.out.l2 (Kd.C_below HQ.out.r2 (by repeat (first | exact Below.refl _ _ | apply below_alloc | apply pw_below_drewN))) HQ.out.l2 h2 K2.out).mono ?_
  rintro e w2 ⟨rfl, n2, rfl⟩
  go_wp2_with fail
  refine (eqi_ok (Kd.C_below HR.out.r3 (by repeat (first | exact Below.refl _ _ | apply below_alloc | apply pw_below_drewN))) HR.out.l3 (Kd.C_below HQ.out.r3 (by repeat (first | exact Below.refl _ _ | apply below_alloc | apply pw_below_drewN))) HQ.out.l3 h3 K3.out).mono ?_
  rintro e w3 ⟨rfl, n3, rfl⟩
  go_wp2
  go_ret
  exact ⟨by first | rfl | simp [*], by repeat (first | exact Below.refl _ _ | apply below_alloc | apply pw_below_drewN)⟩

set_option maxHeartbeats 1000000 in
set_option maxRecDepth 100000 in
theorem same_w7 {p q : PgV} {A1 A2 A3 B1 B2 B3 : Option Addr} {c1 c2 c3 e1 e2 e3 : Nat} {w : World} (hR : PgR w p A1 c1 A2 c2 A3 c3) (hQ : PgR w q B1 e1 B2 e2 B3 e3) (h1 : p.keys.length ≤ 1000) (h2 : p.vals.length ≤ 1000) (h3 : p.kids.length ≤ 1000) (b0 : (p.kind == q.kind) = true) (b1 : decide (p.keys = q.keys) = true) (b2 : decide (p.vals = q.vals) = true) (b3 : decide (p.kids = q.kids) = true) (b4 : (p.root == q.root) = true) (b5 : (p.next == q.next) = true) (b6 : (p.size == q.size) = true) (b7 : (p.idle == q.idle) = false) :
    Calls Try.prog 20 #[p.lay A1 c1 A2 c2 A3 c3, q.lay B1 e1 B2 e2 B3 e3] w fun e w' => e = .returned (.bool false) ∧ Below w.heap.size w w' := by
  have HR := Aside0.mk hR
  have HQ := Aside0.mk hQ
  clear hR hQ
  have K1 := Aside0.mk b1
  clear b1
  have K2 := Aside0.mk b2
  clear b2
  have K3 := Aside0.mk b3
  clear b3
  unfold PgV.lay
  go_enter Try.func20, Try.ntmps20
  go_wp2_with fail
  refine (eqs_ok (Kd.C_below HR.out.r1 (by repeat (first | exact Below.refl _ _ | apply below_alloc | apply pw_below_drewN))) HR.out.l1 (Kd.C_below HQ.out.r1 (by repeat (first | exact Below.refl _ _ | apply below_alloc | apply pw_below_drewN))) HQ.out.l1 h1 K1.out).mono ?_
  rintro e w1 ⟨rfl, n1, rfl⟩
  go_wp2_with fail
  refine (eqs_ok (Kd.C_below HR.out.r2 (by repeat (first | exact Below.refl _ _ | apply below_alloc | apply pw_below_drewN))) HR.out.l2 (Kd.C_below HQ.out.r2 (by repeat (first | exact Below.refl _ _ | apply below_alloc | apply pw_below_drewN))) HQ.out.l2 h2 K2.out).mono ?_
  rintro e w2 ⟨rfl, n2, rfl⟩
  go_wp2_with fail
  refine (eqi_ok (Kd.C_below HR.out.r3 (by repeat (first | exact Below.refl _ _ | apply below_alloc | apply pw_below_drewN))) HR.out.l3 (Kd.C_below HQ.out.r3 (by repeat (first | exact Below.refl _ _ | apply below_alloc | apply pw_below_drewN))) HQ.out.l3 h3 K3.out).mono ?_
  rintro e w3 ⟨rfl, n3, rfl⟩
  go_wp2
  go_ret
  exact ⟨by first | rfl | simp [*], by repeat (first | exact Below.refl _ _ | apply below_alloc | apply pw_below_drewN)⟩

set_option maxHeartbeats 1000000 in
set_option maxRecDepth 100000 in
theorem same_w8 {p q : PgV} {A1 A2 A3 B1 B2 B3 : Option Addr} {c1 c2 c3 e1 e2 e3 : Nat} {w : World} (hR : PgR w p A1 c1 A2 c2 A3 c3) (hQ : PgR w q B1 e1 B2 e2 B3 e3) (h1 : p.keys.length ≤ 1000) (h2 : p.vals.length ≤ 1000) (h3 : p.kids.length ≤ 1000) (b0 : (p.kind == q.kind) = true) (b1 : decide (p.keys = q.keys) = true) (b2 : decide (p.vals = q.vals) = true) (b3 : decide (p.kids = q.kids) = true) (b4 : (p.root == q.root) = true) (b5 : (p.next == q.next) = true) (b6 : (p.size == q.size) = true) (b7 : (p.idle == q.idle) = true) :
    Calls Try.prog 20 #[p.lay A1 c1 A2 c2 A3 c3, q.lay B1 e1 B2 e2 B3 e3] w fun e w' => e = .returned (.bool true) ∧ Below w.heap.size w w' := by
  have HR := Aside0.mk hR
  have HQ := Aside0.mk hQ
  clear hR hQ
  have K1 := Aside0.mk b1
  clear b1
  have K2 := Aside0.mk b2
  clear b2
  have K3 := Aside0.mk b3
  clear b3
  unfold PgV.lay
  go_enter Try.func20, Try.ntmps20
  go_wp2_with fail
  refine (eqs_ok (Kd.C_below HR.out.r1 (by repeat (first | exact Below.refl _ _ | apply below_alloc | apply pw_below_drewN))) HR.out.l1 (Kd.C_below HQ.out.r1 (by repeat (first | exact Below.refl _ _ | apply below_alloc | apply pw_below_drewN))) HQ.out.l1 h1 K1.out).mono ?_
  rintro e w1 ⟨rfl, n1, rfl⟩
  go_wp2_with fail
  refine (eqs_ok (Kd.C_below HR.out.r2 (by repeat (first | exact Below.refl _ _ | apply below_alloc | apply pw_below_drewN))) HR.out.l2 (Kd.C_below HQ.out.r2 (by repeat (first | exact Below.refl _ _ | apply below_alloc | apply pw_below_drewN))) HQ.out.l2 h2 K2.out).mono ?_
  rintro e w2 ⟨rfl, n2, rfl⟩
  go_wp2_with fail
  refine (eqi_ok (Kd.C_below HR.out.r3 (by repeat (first | exact Below.refl _ _ | apply below_alloc | apply pw_below_drewN))) HR.out.l3 (Kd.C_below HQ.out.r3 (by repeat (first | exact Below.refl _ _ | apply below_alloc | apply pw_below_drewN))) HQ.out.l3 h3 K3.out).mono ?_
  rintro e w3 ⟨rfl, n3, rfl⟩
  go_wp2
  go_ret
  exact ⟨by first | rfl | simp [*], by repeat (first | exact Below.refl _ _ | apply below_alloc | apply pw_below_drewN)⟩

theorem same_ok {p q : PgV} {A1 A2 A3 B1 B2 B3 : Option Addr} {c1 c2 c3 e1 e2 e3 : Nat} {w : World} (hR : PgR w p A1 c1 A2 c2 A3 c3) (hQ : PgR w q B1 e1 B2 e2 B3 e3) (h1 : p.keys.length ≤ 1000) (h2 : p.vals.length ≤ 1000) (h3 : p.kids.length ≤ 1000) :
    Calls Try.prog 20 #[p.lay A1 c1 A2 c2 A3 c3, q.lay B1 e1 B2 e2 B3 e3] w fun e w' => e = .returned (.bool (sameB p q)) ∧ Below w.heap.size w w' := by
  by_cases d0 : p.kind = q.kind
  · by_cases d1 : p.keys = q.keys
    · by_cases d2 : p.vals = q.vals
      · by_cases d3 : p.kids = q.kids
        · by_cases d4 : p.root = q.root
          · by_cases d5 : p.next = q.next
            · by_cases d6 : p.size = q.size
              · by_cases d7 : p.idle = q.idle
                · rw [show sameB p q = true by simp [sameB, *]]
                  exact same_w8 hR hQ h1 h2 h3 (by simp [*]) (by simp [*]) (by simp [*]) (by simp [*]) (by simp [*]) (by simp [*]) (by simp [*]) (by simp [*])
                · rw [show sameB p q = false by simp [sameB, *]]
                  exact same_w7 hR hQ h1 h2 h3 (by simp [*]) (by simp [*]) (by simp [*]) (by simp [*]) (by simp [*]) (by simp [*]) (by simp [*]) (by simp [*])
              · rw [show sameB p q = false by simp [sameB, *]]
                exact same_w6 hR hQ h1 h2 h3 (by simp [*]) (by simp [*]) (by simp [*]) (by simp [*]) (by simp [*]) (by simp [*]) (by simp [*])
            · rw [show sameB p q = false by simp [sameB, *]]
              exact same_w5 hR hQ h1 h2 h3 (by simp [*]) (by simp [*]) (by simp [*]) (by simp [*]) (by simp [*]) (by simp [*])
          · rw [show sameB p q = false by simp [sameB, *]]
            exact same_w4 hR hQ h1 h2 h3 (by simp [*]) (by simp [*]) (by simp [*]) (by simp [*]) (by simp [*])
        · rw [show sameB p q = false by simp [sameB, *]]
          exact same_w3 hR hQ h1 h2 h3 (by simp [*]) (by simp [*]) (by simp [*]) (by simp [*])
      · rw [show sameB p q = false by simp [sameB, *]]
        exact same_w2 hR hQ h1 h2 h3 (by simp [*]) (by simp [*]) (by simp [*])
    · rw [show sameB p q = false by simp [sameB, *]]
      exact same_w1 hR hQ h1 h2 h3 (by simp [*]) (by simp [*])
  · rw [show sameB p q = false by simp [sameB, *]]
    exact same_w0 hR hQ h1 h2 h3 (by simp [*])
end Go.Proofs.Ytopfaeefhicljaa.Q
