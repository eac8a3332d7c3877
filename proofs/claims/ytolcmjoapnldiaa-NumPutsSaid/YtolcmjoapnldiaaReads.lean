/- Readers beside each other: a new one's place, what stays of one when another one reads, what an error leaves. No conditions. -/
import Derived.Test.YtolcmjoapnldiaaNum
import Derived.Test.YtolcmjoapnldiaaQ1
namespace Go.Proofs.Ytolcmjoapnldiaa.Num
open Go Go.RowKit Go.Proofs.Ytolcmjoapnldiaa.Q Go.Proofs.YtolcmjoapnldiaaW.PrintWords Go.Proofs.Ytolcmjoapnldiaa.Leb Go.Proofs.Ytolcmjoapnldiaa.Str
set_option linter.unusedVariables false

/-- A reader that lies elsewhere stays. -/
theorem is_keep {w0 W W1 : World} {g g' : Nat} {f : RdS} (h : IsS64 w0 W g f) (hk : KeepBut W W1 g' none) (hne : g ≠ g') : IsS64 w0 W1 g f := by
  obtain ⟨A, c, hb, hr⟩ := h
  exact ⟨A, c, hk.blk hb hne (by simp), hr⟩

theorem read_ex (A : Option Addr) (n c : Nat) (w : World) :
    Calls Try.prog 21 #[.slice A n c] w fun e w' => e = .returned (.pointer (some ⟨w.heap.size, 0, none⟩)) ∧ w' = w.alloc (.cells #[.slice A n c, .int .i64 0] 64) := by
  go_enter Try.func21, Try.ntmps21
  go_wp2
  go_ret
  exact ⟨rfl, rfl⟩

theorem is_new {w0 W : World} {A : Option Addr} {c : Nat} {l : List Int} (hB : Below w0.heap.size w0 W) (hC : Kd.C (Kd.int .u8) w0 A l.length l) (hc : l.length ≤ c) (hy : Byt l) :
    IsS64 w0 (W.alloc (.cells #[.slice A l.length c, .int .i64 0] 64)) W.heap.size ⟨l, 0⟩ :=
  ⟨A, c, heap_alloc_new W _, hB.size, hC, hc, hy⟩

theorem rgo_err {most : Int} : ∀ (l : List Int) (j : Nat) (acc : Int), (rgo most j acc l).2.e ≠ 0 → (rgo most j acc l).1 = 0 ∧ (rgo most j acc l).2.b = []
  | [], j, acc, _ => by rw [rgo_short]; exact ⟨rfl, rfl⟩
  | x :: t, j, acc, h => by
    by_cases hbad : (j = 9 ∧ 1 < x) ∨ (0 < j ∧ x = 0)
    · rw [rgo_bad hbad]; exact ⟨rfl, rfl⟩
    · by_cases hc : 128 ≤ x
      · rw [rgo_more hbad hc] at h ⊢
        exact rgo_err t _ _ h
      · by_cases hm : most < acc + x % 128 * 128 ^ j
        · rw [rgo_many hbad (by omega) hm]; exact ⟨rfl, rfl⟩
        · rw [rgo_done hbad (by omega) hm] at h
          exact absurd rfl h

/-- A reader that can't read has nothing. -/
def Ok (s : RdS) : Prop := s.e ≠ 0 → s.b = []

theorem rnum_ok {s : RdS} (m : Int) (h : Ok s) : Ok (rnum s m).2 := by
  unfold rnum
  split
  · exact fun h2 => (rgo_err _ _ _ h2).2
  · exact h

theorem rgo_byt {most : Int} : ∀ (l : List Int) (j : Nat) (acc : Int), Byt l → Byt (rgo most j acc l).2.b
  | [], j, acc, _ => by rw [rgo_short]; exact Byt.nil
  | x :: t, j, acc, h => by
    by_cases hbad : (j = 9 ∧ 1 < x) ∨ (0 < j ∧ x = 0)
    · rw [rgo_bad hbad]; exact Byt.nil
    · by_cases hc : 128 ≤ x
      · rw [rgo_more hbad hc]
        exact rgo_byt t _ _ h.tail
      · by_cases hm : most < acc + x % 128 * 128 ^ j
        · rw [rgo_many hbad (by omega) hm]; exact Byt.nil
        · rw [rgo_done hbad (by omega) hm]
          exact h.tail

theorem rnum_byt {s : RdS} (m : Int) (h : Byt s.b) : Byt (rnum s m).2.b := by
  unfold rnum
  split
  · exact rgo_byt _ _ _ h
  · exact h

theorem rgo_most {most : Int} (h0 : 0 ≤ most) : ∀ (l : List Int) (j : Nat) (acc : Int), (rgo most j acc l).1 ≤ most
  | [], j, acc => by rw [rgo_short]; exact h0
  | x :: t, j, acc => by
    by_cases hbad : (j = 9 ∧ 1 < x) ∨ (0 < j ∧ x = 0)
    · rw [rgo_bad hbad]; exact h0
    · by_cases hc : 128 ≤ x
      · rw [rgo_more hbad hc]
        exact rgo_most h0 t _ _
      · by_cases hm : most < acc + x % 128 * 128 ^ j
        · rw [rgo_many hbad (by omega) hm]; exact h0
        · rw [rgo_done hbad (by omega) hm]
          simp only
          omega

theorem rnum_most {s : RdS} {m : Int} (h0 : 0 ≤ m) : (rnum s m).1 ≤ m := by
  unfold rnum
  split
  · exact rgo_most h0 _ _ _
  · exact h0

/-- Two readers, and a block that neither is. -/
structure Two (w W : World) (g1 : Nat) (s1 : RdS) (g2 : Nat) (s2 : RdS) (gt : Nat) (o : Option Obj) : Prop where
  B : Below w.heap.size w W
  I : IsS64 w W g1 s1
  J : IsS64 w W g2 s2
  T : o = none ∨ (W.heap[gt]? = o ∧ gt ≠ g1 ∧ gt ≠ g2)
  ne : g1 ≠ g2

section
variable {w W : World} {g1 g2 gt : Nat} {s1 s2 : RdS} {o : Option Obj}
theorem Two.box {o : Obj} (h : Two w W g1 s1 g2 s2 gt (some o)) : W.heap[gt]? = some o := by
  rcases h.T with h | h
  · cases h
  · exact h.1
theorem keep_box {W W' : World} {g : Nat} (h : o = none ∨ (W.heap[gt]? = o ∧ gt ≠ g1 ∧ gt ≠ g2)) (hk : KeepBut W W' g none) (hg : g = g1 ∨ g = g2) : o = none ∨ (W'.heap[gt]? = o ∧ gt ≠ g1 ∧ gt ≠ g2) := by
  cases o with
  | none => exact .inl rfl
  | some o =>
    rcases h with h | ⟨h, h1, h2⟩
    · cases h
    · exact .inr ⟨hk.blk h (by rcases hg with rfl | rfl <;> assumption) (by simp), h1, h2⟩
theorem Two.num2 (h : Two w W g1 s1 g2 s2 gt o) (m n : Int) (p : RdS) (hn : rnum s2 m = (n, p)) :
    Calls Try.prog 23 #[.pointer (some ⟨g2, 0, none⟩), .int .u64 m] W fun e W' => e = .returned (.int .u64 n) ∧ Two w W' g1 s1 g2 p gt o := by
  refine (num_Reader_Num.calls g2 s2 m n p w W h.J h.B (by rw [num_Reader_Num.f, hn])).mono ?_
  rintro e W' ⟨rfl, hJ, hB, hk⟩
  exact ⟨rfl, hB, is_keep h.I hk h.ne, hJ, keep_box h.T hk (.inr rfl), h.ne⟩
theorem Two.err1 (h : Two w W g1 s1 g2 s2 gt o) :
    Calls Try.prog 24 #[.pointer (some ⟨g1, 0, none⟩)] W fun e W' => e = .returned (.int .i64 s1.e) ∧ Two w W' g1 s1 g2 s2 gt o := by
  refine (num_Reader_Err.calls g1 s1 s1.e s1 w W h.I h.B rfl).mono ?_
  rintro e W' ⟨rfl, hI, hB, hk⟩
  exact ⟨rfl, hB, hI, is_keep h.J hk (Ne.symm h.ne), keep_box h.T hk (.inl rfl), h.ne⟩
theorem Two.err2 (h : Two w W g1 s1 g2 s2 gt o) :
    Calls Try.prog 24 #[.pointer (some ⟨g2, 0, none⟩)] W fun e W' => e = .returned (.int .i64 s2.e) ∧ Two w W' g1 s1 g2 s2 gt o := by
  refine (num_Reader_Err.calls g2 s2 s2.e s2 w W h.J h.B rfl).mono ?_
  rintro e W' ⟨rfl, hJ, hB, hk⟩
  exact ⟨rfl, hB, is_keep h.I hk h.ne, hJ, keep_box h.T hk (.inr rfl), h.ne⟩
theorem Two.left1 (h : Two w W g1 s1 g2 s2 gt o) :
    Calls Try.prog 25 #[.pointer (some ⟨g1, 0, none⟩)] W fun e W' => e = .returned (.int .i64 s1.b.length) ∧ Two w W' g1 s1 g2 s2 gt o := by
  refine (num_Reader_Left.calls g1 s1 s1.b.length s1 w W h.I h.B rfl).mono ?_
  rintro e W' ⟨rfl, hI, hB, hk⟩
  exact ⟨rfl, hB, hI, is_keep h.J hk (Ne.symm h.ne), keep_box h.T hk (.inl rfl), h.ne⟩
theorem Two.left2 (h : Two w W g1 s1 g2 s2 gt o) :
    Calls Try.prog 25 #[.pointer (some ⟨g2, 0, none⟩)] W fun e W' => e = .returned (.int .i64 s2.b.length) ∧ Two w W' g1 s1 g2 s2 gt o := by
  refine (num_Reader_Left.calls g2 s2 s2.b.length s2 w W h.J h.B rfl).mono ?_
  rintro e W' ⟨rfl, hJ, hB, hk⟩
  exact ⟨rfl, hB, is_keep h.I hk h.ne, hJ, keep_box h.T hk (.inr rfl), h.ne⟩
end
end Go.Proofs.Ytolcmjoapnldiaa.Num
