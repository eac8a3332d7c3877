/- Proved: NumNil answers true: a nil reader reads nothing. No conditions beyond the given statement's. -/
import Derived.Test.YtolcmjoapnldiaaNum
namespace Go.Proofs.Ytolcmjoapnldiaa.NumNil
open Go Go.RowKit Go.Proofs.Ytolcmjoapnldiaa.Q Go.Proofs.YtolcmjoapnldiaaW.PrintWords Go.Proofs.Ytolcmjoapnldiaa.Leb Go.Proofs.Ytolcmjoapnldiaa.Str Go.Proofs.Ytolcmjoapnldiaa.Num

theorem num_nil (m : Int) (w : World) : Calls Try.prog 23 #[.pointer none, .int .u64 m] w fun e w' => e = .returned (.int .u64 0) ∧ w = w' := by
  go_enter Try.func23, Try.ntmps23
  go_wp2
  go_ret
  exact ⟨rfl, rfl⟩
theorem err_nil (w : World) : Calls Try.prog 24 #[.pointer none] w fun e w' => e = .returned (.int .i64 1) ∧ w = w' := by
  go_enter Try.func24, Try.ntmps24
  go_wp2
  go_ret
  exact ⟨rfl, rfl⟩
theorem left_nil (w : World) : Calls Try.prog 25 #[.pointer none] w fun e w' => e = .returned (.int .i64 0) ∧ w = w' := by
  go_enter Try.func25, Try.ntmps25
  go_wp2
  go_ret
  exact ⟨rfl, rfl⟩
theorem end_nil (w : World) : Calls Try.prog 29 #[.pointer none] w fun e w' => e = .returned (.int .i64 1) ∧ w = w' := by
  go_enter Try.func29, Try.ntmps29
  go_wp2
  go_ret
  exact ⟨rfl, rfl⟩
theorem text_nil_ (m : Int) (w : World) : Calls Try.prog 26 #[.pointer none, .int .i64 m] w fun e w' => e = .returned (.string ⟨#[]⟩) ∧ w = w' := by
  go_enter Try.func26, Try.ntmps26
  go_wp2_with (go_at_call 23; refine (num_nil _ _).mono ?_; rintro e w' ⟨rfl, rfl⟩)
  all_goals go_ret
  all_goals exact ⟨rfl, rfl⟩
theorem tid_nil_ (w : World) : Calls Try.prog 22 #[.pointer none] w fun e w' => e = .returned (.agg #[.int .u64 0, .int .i64 0]) ∧ Below w.heap.size w w' := by
  go_enter Try.func22, Try.ntmps22
  go_wp2_with (first | (go_at_call 23; refine (num_nil _ _).mono ?_; rintro e w' ⟨rfl, rfl⟩) | (go_at_call 24; refine (err_nil _).mono ?_; rintro e w' ⟨rfl, rfl⟩))
  exact bodyPost_ret (v := .agg #[.int .u64 0, .int .i64 0]) (by simp [results, Try.results22, go_sem]) rfl ⟨rfl, below_alloc (below_alloc (Below.refl _ _) _) _⟩

theorem read_nil (w : World) : Calls Try.prog 21 #[.slice none 0 0] w fun e w' => ∃ g : Nat, e = .returned (.pointer (some ⟨g, 0, none⟩)) ∧ IsS64 w w' g ⟨[], 0⟩ ∧ Below w.heap.size w w' :=
  (num_Read.calls none 0 [] ⟨[], 0⟩ w w (Below.refl _ _) (Kd.C_nil _ _) (Nat.le_refl _) rfl).mono fun _ _ ⟨g, h1, h2, h3, _⟩ => ⟨g, h1, h2, h3⟩

theorem end_new (g : Nat) (w0 w : World) (hI : IsS64 w0 w g ⟨[], 0⟩) (hB : Below w0.heap.size w0 w) : Calls Try.prog 29 #[.pointer (some ⟨g, 0, none⟩)] w fun e w' => e = .returned (.int .i64 0) ∧ Below w0.heap.size w0 w' :=
  (num_Reader_End.calls g ⟨[], 0⟩ 0 ⟨[], 0⟩ w0 w hI hB rfl).mono fun _ _ ⟨h1, _, h3, _⟩ => ⟨h1, h3⟩

set_option maxHeartbeats 4000000 in
theorem law_ok (m : Int) (w : World) (_ : (Lit.int .i64 m).wf = true) :
    Calls Try.prog 10 #[.int .i64 m] w fun e w' => e = .returned (.bool true) ∧ Below w.heap.size w w' := by
  go_enter Try.func10, Try.ntmps10
  go_wp2_with (first
    | (go_at_call 15; with_reducible refine (head_ok _).mono ?_; rintro e w1 ⟨rfl, hb1⟩; have HB := Aside0.mk hb1; clear hb1)
    | (go_at_call 23; with_reducible refine (num_nil _ _).mono ?_; rintro e w' ⟨rfl, rfl⟩)
    | (go_at_call 26; with_reducible refine (text_nil_ _ _).mono ?_; rintro e w' ⟨rfl, rfl⟩)
    | (go_at_call 22; with_reducible refine (tid_nil_ _).mono ?_; rintro e w2 ⟨rfl, hb2⟩; have HC := Aside0.mk (below_step HB.out hb2); clear HB hb2; have HB := HC; clear HC)
    | (go_at_call 25; with_reducible refine (left_nil _).mono ?_; rintro e w' ⟨rfl, rfl⟩)
    | (go_at_call 24; with_reducible refine (err_nil _).mono ?_; rintro e w' ⟨rfl, rfl⟩)
    | (go_at_call 29; with_reducible refine (end_nil _).mono ?_; rintro e w' ⟨rfl, rfl⟩)
    | (go_at_call 21; with_reducible refine (read_nil _).mono ?_; rintro e w3 ⟨g, rfl, hI, hb2⟩; have HI := Aside0.mk hI; have HD := Aside0.mk hb2; clear hI hb2)
    | (go_at_call 29; with_reducible refine (end_new _ _ _ HI.out HD.out).mono ?_; rintro e w4 ⟨rfl, hB⟩; have HE := Aside0.mk (below_step HB.out hB); clear hB))
  go_ret
  exact ⟨rfl, HE.out⟩
end Go.Proofs.Ytolcmjoapnldiaa.NumNil
