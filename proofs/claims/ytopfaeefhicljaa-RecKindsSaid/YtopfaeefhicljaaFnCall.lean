/- slices.ContainsFunc at the function values that package page hands it, and slices.Clone, walked, in the print's form. Conditions: a slice that is cloned has a million elements at the most. -/
import Derived.Test.YtopfaeefhicljaaProg
import Derived.Below
import Derived.OwnWalk
import Derived.Tactics
import Derived.WalkKit
import Derived.KernelRfl
import Derived.RowKit3
import Derived.LoopTactic
import Derived.WalkSpells
import Derived.Laws.Cover1
import Derived.Test.YtopfaeefhicljaaWKept
import Derived.Test.YtopfaeefhicljaaWMore
namespace Go.Proofs.Ytopfaeefhicljaa.Q
open Go Go.RowKit Go.Proofs.YtopfaeefhicljaaW.PrintWords Go.Proofs.YtopfaeefhicljaaW.PrintMore
set_option linter.unusedVariables false
set_option linter.unusedSimpArgs false

theorem any_snoc {α : Type} (p : α → Bool) (l : List α) (k : Nat) (d : α) (h : k < l.length) : (l.take (k + 1)).any p = ((l.take k).any p || p (l.getD k d)) := by
  rw [List.take_succ_eq_append_getElem h, List.any_append]
  simp [List.getD_eq_getElem?_getD, List.getElem?_eq_getElem h]
theorem any_of_at {α : Type} (p : α → Bool) (l : List α) (k : Nat) (d : α) (h : k < l.length) (hp : p (l.getD k d) = true) : l.any p = true := by
  rw [List.any_eq_true]
  refine ⟨l[k], List.getElem_mem h, ?_⟩
  simpa [List.getD_eq_getElem?_getD, List.getElem?_eq_getElem h] using hp

/-! ### texts longer than 48 -/
theorem clo_s (s : ByteArray) (w : World) : Calls Try.prog 39 #[.string s] w fun e w' => e = .returned (.bool (decide (48 < s.size))) ∧ w = w' := by
  by_cases h : 48 < s.size
  · have b1 : decide ((48 : Int) < (s.size : Int)) = true := decide_eq_true (by omega)
    have b2 : decide (48 < s.size) = true := decide_eq_true h
    clear h
    go_enter Try.func39, Try.ntmps39
    go_wp2
    go_ret
    exact ⟨by simp [b2], rfl⟩
  · have b1 : decide ((48 : Int) < (s.size : Int)) = false := decide_eq_false (by omega)
    have b2 : decide (48 < s.size) = false := decide_eq_false h
    clear h
    go_enter Try.func39, Try.ntmps39
    go_wp2
    go_ret
    exact ⟨by simp [b2], rfl⟩

set_option maxHeartbeats 1000000 in
theorem index_s (A : Option Addr) (c : Nat) (l : List ByteArray) (w : World) (hC : Kd.C Kd.string w A l.length l) (hc : l.length ≤ c) :
    Calls Try.prog 77 #[.slice A l.length c, .func (.func 39) #[] #[]] w fun e w' => ∃ n : Int, e = .returned (.int .i64 n) ∧ (Aside0 (decide (0 ≤ n) = l.any fun s => decide (48 < s.size))) ∧ w = w' := by
  have HC := Aside0.mk hC
  have hm := hC.2.1
  clear hC
  go_enter Try.func77, Try.ntmps77
  go_wp2
  go_loop [8] (fun i => ∃ k : Nat, k ≤ l.length ∧ i = .int .i64 k ∧ Aside0 ((l.take k).any (fun s => decide (48 < s.size)) = false)) (fun i => l.length - (intOf i).toNat)
  case atStart => exact ⟨0, Nat.zero_le _, rfl, ⟨by simp⟩⟩
  case round =>
    obtain ⟨k, hk, rfl, hn⟩ := hrel
    by_cases hlt : k < l.length
    · obtain ⟨ad, hA, hcell⟩ := Kd.at_string HC.out (k : Int) (by omega) (by omega)
      subst hA
      have hcell' : w.cell? (ad.add k) = some (.string (rdOf ByteArray.empty l (k : Int))) := by simpa using hcell
      clear hcell
      have hrd : rdOf ByteArray.empty l (k : Int) = l.getD k ByteArray.empty := by simp [rdOf]
      have Hrd := Aside0.mk hrd
      clear hrd
      generalize rdOf ByteArray.empty l (k : Int) = y at hcell' Hrd
      by_cases hy : 48 < y.size
      · have b2 : decide (48 < y.size) = true := decide_eq_true hy
        have Hy := Aside0.mk hy
        clear hy
        go_wp2_with (go_at_call 39; refine (clo_s _ _).mono ?_; rintro e w' ⟨rfl, rfl⟩)
        go_ret
        refine ⟨_, rfl, ⟨?_⟩, rfl⟩
        rw [any_of_at _ l k ByteArray.empty hlt (by rw [← Hrd.out]; exact b2)]
        exact decide_eq_true (by omega)
      · have b2 : decide (48 < y.size) = false := decide_eq_false hy
        have Hy := Aside0.mk hy
        clear hy
        go_wp2_with (go_at_call 39; refine (clo_s _ _).mono ?_; rintro e w' ⟨rfl, rfl⟩)
        go_round
        case rel => exact ⟨k + 1, by omega, by go_num, ⟨by rw [any_snoc _ l k ByteArray.empty hlt, hn.out, ← Hrd.out, b2]; rfl⟩⟩
        case measure => simp [intOf]; omega
    · go_wp2
      go_ret
      refine ⟨_, rfl, ⟨?_⟩, rfl⟩
      have : k = l.length := by omega
      subst this
      have h := hn.out
      rw [List.take_length] at h
      rw [h]
      rfl

def slices_ContainsFunc_string_string.f (l : List ByteArray) (fn : Nat) : Option Bool := if fn = 39 then some (l.any fun s => decide (48 < s.size)) else none

theorem slices_ContainsFunc_string_string.calls (A : Option Addr) (c : Nat) (l : List ByteArray) (fn : Nat) (r : Bool) (w : World) (hC : Kd.C Kd.string w A l.length l) (hc : l.length ≤ c) (h : slices_ContainsFunc_string_string.f l fn = some r) :
    Calls Try.prog 38 #[.slice A l.length c, .func (.func fn) #[] #[]] w fun e w' => e = .returned (.bool r) ∧ Drawn0 w w' := by
  unfold slices_ContainsFunc_string_string.f at h
  split at h
  · rename_i hfn
    subst hfn
    have H := Aside0.mk (Option.some.inj h)
    have HC := Aside0.mk hC
    clear h hC
    go_enter Try.func38, Try.ntmps38
    go_wp2_with (go_at_call 77; refine (index_s A c l _ HC.out hc).mono ?_; rintro e w' ⟨n, rfl, hn, rfl⟩)
    go_ret
    exact ⟨by rw [← H.out, ← hn.out]; rfl, Drawn0.refl _⟩
  · cases h

/-! ### numbers that are no page's -/
theorem in_page (n : Int) (w : World) : Calls Try.prog 42 #[.int .i64 n] w fun e w' => e = .returned (.bool (decide (0 ≤ n) && decide (n < 65536))) ∧ w = w' := by
  by_cases h : 0 ≤ n
  · by_cases h2 : n < 65536
    · have b1 : decide (0 ≤ n) = true := decide_eq_true h
      have b2 : decide (n < 65536) = true := decide_eq_true h2
      rw [b1, b2]
      go_enter Try.func42, Try.ntmps42
      go_wp2
      go_ret
      exact ⟨rfl, rfl⟩
    · have b1 : decide (0 ≤ n) = true := decide_eq_true h
      have b2 : decide (n < 65536) = false := decide_eq_false h2
      rw [b1, b2]
      go_enter Try.func42, Try.ntmps42
      go_wp2
      go_ret
      exact ⟨rfl, rfl⟩
  · have b1 : decide (0 ≤ n) = false := decide_eq_false h
    rw [b1]
    go_enter Try.func42, Try.ntmps42
    go_wp2
    go_ret
    exact ⟨rfl, rfl⟩

def outB (n : Int) : Bool := !(decide (0 ≤ n) && decide (n < 65536))
theorem clo_i (n : Int) (w : World) : Calls Try.prog 41 #[.int .i64 n] w fun e w' => e = .returned (.bool (outB n)) ∧ w = w' := by
  unfold outB
  have hx := in_page n
  generalize (decide (0 ≤ n) && decide (n < 65536)) = x at hx ⊢
  have HX := Aside0.mk hx
  clear hx
  cases x
  · go_enter Try.func41, Try.ntmps41
    go_wp2_with (go_at_call 42; refine (HX.out _).mono ?_; rintro e w' ⟨rfl, rfl⟩)
    go_ret
    exact ⟨rfl, rfl⟩
  · go_enter Try.func41, Try.ntmps41
    go_wp2_with (go_at_call 42; refine (HX.out _).mono ?_; rintro e w' ⟨rfl, rfl⟩)
    go_ret
    exact ⟨rfl, rfl⟩

set_option maxHeartbeats 1000000 in
theorem index_i (A : Option Addr) (c : Nat) (l : List Int) (w : World) (hC : Kd.C (Kd.int .i64) w A l.length l) (hc : l.length ≤ c) :
    Calls Try.prog 78 #[.slice A l.length c, .func (.func 41) #[] #[]] w fun e w' => ∃ n : Int, e = .returned (.int .i64 n) ∧ (Aside0 (decide (0 ≤ n) = l.any outB)) ∧ w = w' := by
  have HC := Aside0.mk hC
  have hm := hC.2.1
  clear hC
  go_enter Try.func78, Try.ntmps78
  go_wp2
  go_loop [8] (fun i => ∃ k : Nat, k ≤ l.length ∧ i = .int .i64 k ∧ Aside0 ((l.take k).any outB = false)) (fun i => l.length - (intOf i).toNat)
  case atStart => exact ⟨0, Nat.zero_le _, rfl, ⟨by simp⟩⟩
  case round =>
    obtain ⟨k, hk, rfl, hn⟩ := hrel
    by_cases hlt : k < l.length
    · obtain ⟨ad, hA, hcell⟩ := Kd.at_int HC.out (k : Int) (by omega) (by omega)
      subst hA
      have hcell' : w.cell? (ad.add k) = some (.int .i64 (rd l (k : Int))) := by simpa using hcell
      clear hcell
      have Hrd : Aside0 (rd l (k : Int) = l.getD k 0) := ⟨by simp [rd]⟩
      generalize rd l (k : Int) = y at hcell' Hrd
      have hx := clo_i y
      rcases Bool.eq_false_or_eq_true (outB y) with hy | hy
      · rw [hy] at hx
        have HX := Aside0.mk hx
        have Hy := Aside0.mk hy
        clear hx hy
        go_wp2_with (go_at_call 41; refine (HX.out _).mono ?_; rintro e w' ⟨rfl, rfl⟩)
        go_ret
        refine ⟨_, rfl, ⟨?_⟩, rfl⟩
        rw [any_of_at _ l k 0 hlt (by rw [← Hrd.out]; exact Hy.out)]
        exact decide_eq_true (by omega)
      · rw [hy] at hx
        have HX := Aside0.mk hx
        have Hy := Aside0.mk hy
        clear hx hy
        go_wp2_with (go_at_call 41; refine (HX.out _).mono ?_; rintro e w' ⟨rfl, rfl⟩)
        go_round
        case rel => exact ⟨k + 1, by omega, by go_num, ⟨by rw [any_snoc _ l k 0 hlt, hn.out, ← Hrd.out, Hy.out]; rfl⟩⟩
        case measure => simp [intOf]; omega
    · go_wp2
      go_ret
      refine ⟨_, rfl, ⟨?_⟩, rfl⟩
      have : k = l.length := by omega
      subst this
      have h := hn.out
      rw [List.take_length] at h
      rw [h]
      rfl

def slices_ContainsFunc_int_int.f (l : List Int) (fn : Nat) : Option Bool := if fn = 41 then some (l.any outB) else none

theorem slices_ContainsFunc_int_int.calls (A : Option Addr) (c : Nat) (l : List Int) (fn : Nat) (r : Bool) (w : World) (hC : Kd.C (Kd.int .i64) w A l.length l) (hc : l.length ≤ c) (h : slices_ContainsFunc_int_int.f l fn = some r) :
    Calls Try.prog 40 #[.slice A l.length c, .func (.func fn) #[] #[]] w fun e w' => e = .returned (.bool r) ∧ Drawn0 w w' := by
  unfold slices_ContainsFunc_int_int.f at h
  split at h
  · rename_i hfn
    subst hfn
    have H := Aside0.mk (Option.some.inj h)
    have HC := Aside0.mk hC
    clear h hC
    go_enter Try.func40, Try.ntmps40
    go_wp2_with (go_at_call 78; refine (index_i A c l _ HC.out hc).mono ?_; rintro e w' ⟨n, rfl, hn, rfl⟩)
    go_ret
    exact ⟨by rw [← H.out, ← hn.out]; rfl, Drawn0.refl _⟩
  · cases h

/-! ### bytes that are no noughts -/
theorem clo_b (n : Int) (w : World) : Calls Try.prog 54 #[.int .u8 n] w fun e w' => e = .returned (.bool (n != 0)) ∧ w = w' := by
  go_enter Try.func54, Try.ntmps54
  go_wp2
  go_ret
  exact ⟨rfl, rfl⟩

set_option maxHeartbeats 1000000 in
theorem index_b (A : Option Addr) (c : Nat) (l : List Int) (w : World) (hC : Kd.C (Kd.int .u8) w A l.length l) (hc : l.length ≤ c) :
    Calls Try.prog 80 #[.slice A l.length c, .func (.func 54) #[] #[]] w fun e w' => ∃ n : Int, e = .returned (.int .i64 n) ∧ (Aside0 (decide (0 ≤ n) = l.any (· != 0))) ∧ w = w' := by
  have HC := Aside0.mk hC
  have hm := hC.2.1
  clear hC
  go_enter Try.func80, Try.ntmps80
  go_wp2
  go_loop [8] (fun i => ∃ k : Nat, k ≤ l.length ∧ i = .int .i64 k ∧ Aside0 ((l.take k).any (· != 0) = false)) (fun i => l.length - (intOf i).toNat)
  case atStart => exact ⟨0, Nat.zero_le _, rfl, ⟨by simp⟩⟩
  case round =>
    obtain ⟨k, hk, rfl, hn⟩ := hrel
    by_cases hlt : k < l.length
    · obtain ⟨ad, hA, hcell⟩ := Kd.at_int HC.out (k : Int) (by omega) (by omega)
      subst hA
      have hcell' : w.cell? (ad.add k) = some (.int .u8 (rd l (k : Int))) := by simpa using hcell
      clear hcell
      have Hrd : Aside0 (rd l (k : Int) = l.getD k 0) := ⟨by simp [rd]⟩
      generalize rd l (k : Int) = y at hcell' Hrd
      have hx := clo_b y
      rcases Bool.eq_false_or_eq_true (y != 0) with hy | hy
      · rw [hy] at hx
        have HX := Aside0.mk hx
        have Hy := Aside0.mk hy
        clear hx hy
        go_wp2_with (go_at_call 54; refine (HX.out _).mono ?_; rintro e w' ⟨rfl, rfl⟩)
        go_ret
        refine ⟨_, rfl, ⟨?_⟩, rfl⟩
        rw [any_of_at _ l k 0 hlt (by rw [← Hrd.out]; exact Hy.out)]
        exact decide_eq_true (by omega)
      · rw [hy] at hx
        have HX := Aside0.mk hx
        have Hy := Aside0.mk hy
        clear hx hy
        go_wp2_with (go_at_call 54; refine (HX.out _).mono ?_; rintro e w' ⟨rfl, rfl⟩)
        go_round
        case rel => exact ⟨k + 1, by omega, by go_num, ⟨by rw [any_snoc _ l k 0 hlt, hn.out, ← Hrd.out, Hy.out]; rfl⟩⟩
        case measure => simp [intOf]; omega
    · go_wp2
      go_ret
      refine ⟨_, rfl, ⟨?_⟩, rfl⟩
      have : k = l.length := by omega
      subst this
      have h := hn.out
      rw [List.take_length] at h
      rw [h]
      rfl

def slices_ContainsFunc_byte_byte.f (l : List Int) (fn : Nat) : Option Bool := if fn = 54 then some (l.any (· != 0)) else none

theorem slices_ContainsFunc_byte_byte.calls (A : Option Addr) (c : Nat) (l : List Int) (fn : Nat) (r : Bool) (w : World) (hC : Kd.C (Kd.int .u8) w A l.length l) (hc : l.length ≤ c) (h : slices_ContainsFunc_byte_byte.f l fn = some r) :
    Calls Try.prog 53 #[.slice A l.length c, .func (.func fn) #[] #[]] w fun e w' => e = .returned (.bool r) ∧ Drawn0 w w' := by
  unfold slices_ContainsFunc_byte_byte.f at h
  split at h
  · rename_i hfn
    subst hfn
    have H := Aside0.mk (Option.some.inj h)
    have HC := Aside0.mk hC
    clear h hC
    go_enter Try.func53, Try.ntmps53
    go_wp2_with (go_at_call 80; refine (index_b A c l _ HC.out hc).mono ?_; rintro e w' ⟨n, rfl, hn, rfl⟩)
    go_ret
    exact ⟨by rw [← H.out, ← hn.out]; rfl, Drawn0.refl _⟩
  · cases h

/-! ### Clone -/
def slices_Clone_string_string.f (l : List ByteArray) : Option (List ByteArray) := if l.length ≤ 1000000 then some l else none
def slices_Clone_int_int.f (l : List Int) : Option (List Int) := if l.length ≤ 1000000 then some l else none

theorem infoS : (Try.prog.info? 9).map (fun i => (i.zero, i.size, i.bytes)) = some (some (.string ⟨#[]⟩), 1, 16) := by kernel_rfl
theorem infoI : (Try.prog.info? 3).map (fun i => (i.zero, i.size, i.bytes)) = some (some (.int .i64 0), 1, 8) := by kernel_rfl

set_option maxHeartbeats 1000000 in
theorem slices_Clone_string_string.calls (A : Option Addr) (c : Nat) (l : List ByteArray) (r : List ByteArray) (w : World) (hC : Kd.C Kd.string w A l.length l) (hc : l.length ≤ c) (h : slices_Clone_string_string.f l = some r) :
    Calls Try.prog 43 #[.slice A l.length c] w fun e w' => ∃ v : Value, e = .returned v ∧ Kd.R Kd.string 9 w' w.heap.size (fun _ => True) v r ∧ Below w.heap.size w w' := by
  unfold slices_Clone_string_string.f at h
  split at h
  · rename_i hl
    obtain rfl := Option.some.inj h
    clear h
    have HC := Aside0.mk hC
    have t1 := fun (W : World) (A : Option Addr) (n c n' c' : Nat) => Go.Lib.run_eql_slice_nil (P := Try.prog) W 24 9 A n c n' c' Try.underlying24
    rcases A with _ | a
    · have hl0 : l = [] := by
        rcases Nat.eq_zero_or_pos l.length with h0 | h0
        · exact List.eq_nil_of_length_eq_zero h0
        · obtain ⟨ad, he, _⟩ := hC.2.2 h0
          cases he
      subst hl0
      clear HC hC
      go_enter Try.func43, Try.ntmps43
      go_wp2
      go_ret
      exact ⟨_, rfl, Kd.R_nil _ _ _ _ _, Below.refl _ _⟩
    · have hm : l.length * 16 ≤ 140737488355328 := by omega
      clear hC
      go_enter Try.func43, Try.ntmps43
      go_wp2_with (at_builtin; refine Kd.R_append_row (w0 := w) Value.string ByteArray.empty (h1 := fun _ => rfl) w.heap.size rfl (.tmp 5) (.tmp 6) 24 9 (.string ⟨#[]⟩) 16 rfl Try.underlying24 infoS rfl (by decide) _ [] l (some a) l.length c (fun _ => True) rfl rfl (fun _ _ => trivial) (Kd.R_of_own (h1 := fun _ => rfl) (ok := fun _ => True) (own_lit_of (enc := Value.string) w w.heap.size 9 ([] : List ByteArray) (Nat.le_refl _) (by simp)) (fun _ _ => trivial)) (Kd.C_alloc HC.out _) (below_alloc (Below.refl _ _) _) (by simp) (by simpa using hm) ?_; intro v1 w1 hR hB _ _; rw [List.nil_append] at hR; have HR := Aside0.mk hR; have HB := Aside0.mk hB; clear hR hB HC hm t1)
      go_ret
      exact ⟨_, rfl, HR.out, HB.out⟩
  · cases h

set_option maxHeartbeats 1000000 in
theorem slices_Clone_int_int.calls (A : Option Addr) (c : Nat) (l : List Int) (r : List Int) (w : World) (hC : Kd.C (Kd.int .i64) w A l.length l) (hc : l.length ≤ c) (h : slices_Clone_int_int.f l = some r) :
    Calls Try.prog 44 #[.slice A l.length c] w fun e w' => ∃ v : Value, e = .returned v ∧ Kd.R (Kd.int .i64) 3 w' w.heap.size (fun _ => True) v r ∧ Below w.heap.size w w' := by
  unfold slices_Clone_int_int.f at h
  split at h
  · rename_i hl
    obtain rfl := Option.some.inj h
    clear h
    have HC := Aside0.mk hC
    have t1 := fun (W : World) (A : Option Addr) (n c n' c' : Nat) => Go.Lib.run_eql_slice_nil (P := Try.prog) W 25 3 A n c n' c' Try.underlying25
    rcases A with _ | a
    · have hl0 : l = [] := by
        rcases Nat.eq_zero_or_pos l.length with h0 | h0
        · exact List.eq_nil_of_length_eq_zero h0
        · obtain ⟨ad, he, _⟩ := hC.2.2 h0
          cases he
      subst hl0
      clear HC hC
      go_enter Try.func44, Try.ntmps44
      go_wp2
      go_ret
      exact ⟨_, rfl, Kd.R_nil _ _ _ _ _, Below.refl _ _⟩
    · have hm : l.length * 8 ≤ 140737488355328 := by omega
      clear hC
      go_enter Try.func44, Try.ntmps44
      go_wp2_with (at_builtin; refine Kd.R_append_row (w0 := w) (Value.int .i64) 0 (h1 := fun _ => rfl) w.heap.size rfl (.tmp 5) (.tmp 6) 25 3 (.int .i64 0) 8 rfl Try.underlying25 infoI rfl (by decide) _ [] l (some a) l.length c (fun _ => True) rfl rfl (fun _ _ => trivial) (Kd.R_of_own (h1 := fun _ => rfl) (ok := fun _ => True) (own_lit_of (enc := (Value.int .i64)) w w.heap.size 3 ([] : List Int) (Nat.le_refl _) (by simp)) (fun _ _ => trivial)) (Kd.C_alloc HC.out _) (below_alloc (Below.refl _ _) _) (by simp) (by simpa using hm) ?_; intro v1 w1 hR hB _ _; rw [List.nil_append] at hR; have HR := Aside0.mk hR; have HB := Aside0.mk hB; clear hR hB HC hm t1)
      go_ret
      exact ⟨_, rfl, HR.out, HB.out⟩
  · cases h

end Go.Proofs.Ytopfaeefhicljaa.Q
