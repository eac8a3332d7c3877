/- (*wal.Log).Free and Append, walked. Conditions: the log's numbers within their bounds, all on the disk is bytes. -/
import Derived.Test.YtihmfccpgahmaaaWalMark
namespace Go.Proofs.Ytihmfccpgahmaaa.Wal
open Go Go.RowKit
open Go.Proofs.YtihmfccpgahmaaaW.PrintWords hiding Kept Kept.refl
open Go.Proofs.YtihmfccpgahmaaaW.PrintMore Go.Proofs.YtihmfccpgahmaaaW.PrintLast Go.Proofs.Ytihmfccpgahmaaa.Dk Go.Proofs.Ytihmfccpgahmaaa.Q Go.Proofs.Ytihmfccpgahmaaa.Str Go.Proofs.Ytihmfccpgahmaaa.Leb
set_option linter.unusedVariables false
set_option linter.unusedSimpArgs false
/-- How many sectors an entry of n bytes takes. -/
def needN (n : Nat) : Nat := (n - 1) / 480 + 1
def LA.free (L : LA) : Int := L.ring - (L.next - L.start)
/-- A part's bytes. -/
def secB (n life : Int) (last : Bool) (b : List Int) : List Int := ((leb (n + 1).toNat ++ leb life.toNat) ++ leb (if last then 1 else 0)) ++ (leb b.length ++ b)
def LA.app1 (L : LA) : LA := { L with next := L.next + 1 }
structure App where
 L : LA
 M : DA
 e : Int
def LA.app (L : LA) (M : DA) : Nat → List Int → App
 | 0, _ => ⟨L, M, 0⟩
 | k + 1, r =>
  if M.wrE (L.pl L.next) (secB L.next L.life (decide (r.length ≤ 480)) (r.take 480)).length = 0 then
   (if r.length ≤ 480 then ⟨L.app1, M.wr (L.pl L.next) (secB L.next L.life (decide (r.length ≤ 480)) (r.take 480)), 0⟩
    else L.app1.app (M.wr (L.pl L.next) (secB L.next L.life (decide (r.length ≤ 480)) (r.take 480))) k (r.drop 480))
  else ⟨L.app1, M.wr (L.pl L.next) (secB L.next L.life (decide (r.length ≤ 480)) (r.take 480)), M.wrE (L.pl L.next) (secB L.next L.life (decide (r.length ≤ 480)) (r.take 480)).length⟩
structure AppR where
 lsn : Int
 e : Int
 L : LA
 M : DA
def LA.append (L : LA) (M : DA) (l : List Int) : AppR :=
 if 16384 < l.length then ⟨0, 1, L, M⟩ else if L.free < needN l.length then ⟨0, 10, L, M⟩
 else ⟨if (L.app M (needN l.length) l).e = 0 then L.next else 0, (L.app M (needN l.length) l).e, (L.app M (needN l.length) l).L, (L.app M (needN l.length) l).M⟩
section
variable {w0 w wa W : World} {p g : Nat} {S : Nat → Prop} {L : LA} {M : DA}
theorem free_l (h : Lg w0 w p g S L M) (hk : L.Ok M.now.length) : Calls Try.prog 40 #[.pointer (some ⟨p, 0, none⟩)] w fun e w' => e = .returned (.int .i64 L.free) ∧ ∃ k, w' = w.drewN k := by
 obtain ⟨c0, c1, c2, c3, c4, c5, c6, c7, c8⟩ := h.all
 have h1 := hk.sn
 have h2 := hk.nr
 have h3 := hk.fn
 have h4 := hk.f0
 have h5 := hk.n6
 have h6 := hk.r0
 have e1 : IntKind.u64.wrap (L.next - L.start) = L.next - L.start := wu64 (by omega) (by omega)
 have e2 : IntKind.i64.wrap (L.next - L.start) = L.next - L.start := wi64 (by omega) (by omega)
 have e3 : IntKind.i64.wrap (L.ring - (L.next - L.start)) = L.ring - (L.next - L.start) := wi64 (by omega) (by omega)
 clear h hk
 go_enter Try.func40, Try.ntmps40
 go_upto_region 3 with fail
 go_quiet (fail)
 go_wp2
 go_ret
 exact ⟨rfl, _, rfl⟩
def needI (n : Int) : Int := ((if 1 < n then n else 1) - 1) / 480 + 1
theorem need_N (n : Nat) : needI (n : Int) = ((needN n : Nat) : Int) := by
 unfold needI needN
 split <;> omega
theorem need_i (n : Int) (hn : n < 9223372036854775808) (w : World) : Calls Try.prog 33 #[.int .i64 n] w fun e w' => e = .returned (.int .i64 (needI n)) ∧ Below w.heap.size w w' := by
 refine wal_Need.calls _ _ w ?_
 unfold wal_Need.f needI mx
 obtain ⟨a, ha⟩ : ∃ a, a = (if 1 < n then n else 1) := ⟨_, rfl⟩
 have h1 : 1 ≤ a := by rw [ha]; split <;> omega
 have h2 : a < 9223372036854775808 := by rw [ha]; split <;> omega
 rw [← ha, w64 (n := a - 1) (by omega) (by omega), Int.tdiv_eq_ediv_of_nonneg (by omega), w64 (n := (a - 1) / 480) (by omega) (by omega), w64 (by omega) (by omega)]
def wlap10t.T10 : Bool × List (List Nat × List Nat) := (true, [([], []), ([0], [0]), ([1], [1]), ([2], [2]), ([3], [3]), ([4], [4]), ([], []), ([6], [6]), ([7], [7]), ([8], [8]), ([5, 9, 5], [5, 9]), ([10, 10, 0, 1, 2, 3, 4, 5, 6, 7, 8, 9, 10], [10])])
def wlap10t.B10 : List Nat := [0, 1, 3, 7, 15, 31, 0, 64, 192, 448, 1023, 2047]
theorem wlap10t.tab10 : rtab .any (opsOf Try.f36 10) = wlap10t.T10 := by kernel_rfl
theorem wlap10t.bits10 : waitsOk wlap10t.T10.2 wlap10t.B10 = true := by kernel_rfl
def wlap10f.T10 : Bool × List (List Nat × List Nat) := (true, [([], []), ([0], [0]), ([1], [1]), ([2], [2]), ([3], [3]), ([4], [4]), ([], []), ([6], [6]), ([7], [7]), ([8], [8]), ([5, 9, 5], [5, 9]), ([10, 10, 0, 1, 2, 3, 4, 5, 6, 7, 8, 9, 10], [10])])
def wlap10f.B10 : List Nat := [0, 1, 3, 7, 15, 31, 0, 64, 192, 448, 1023, 2047]
theorem wlap10f.tab10 : rtab .any (opsOf Try.f36 10) = wlap10f.T10 := by kernel_rfl
theorem wlap10f.bits10 : waitsOk wlap10f.T10.2 wlap10f.B10 = true := by kernel_rfl
def wlap14t.T14 : Bool × List (List Nat × List Nat) := (true, [([], []), ([], []), ([0, 1], [0, 1]), ([], []), ([], []), ([3, 4], [3, 4]), ([5], [5]), ([2, 6, 2], [2, 6]), ([7, 7, 0, 1, 2, 3, 4, 5, 6, 7], [0, 7])])
def wlap14t.B14 : List Nat := [0, 0, 3, 0, 0, 24, 56, 127, 255]
theorem wlap14t.tab14 : rtab .any (opsOf Try.f36 14) = wlap14t.T14 := by kernel_rfl
theorem wlap14t.bits14 : waitsOk wlap14t.T14.2 wlap14t.B14 = true := by kernel_rfl
def wlap14f.T14 : Bool × List (List Nat × List Nat) := (true, [([], []), ([], []), ([0, 1], [0, 1]), ([], []), ([], []), ([3, 4], [3, 4]), ([5], [5]), ([2, 6, 2], [2, 6]), ([7, 7, 0, 1, 2, 3, 4, 5, 6, 7], [0, 7])])
def wlap14f.B14 : List Nat := [0, 0, 3, 0, 0, 24, 56, 127, 255]
theorem wlap14f.tab14 : rtab .any (opsOf Try.f36 14) = wlap14f.T14 := by kernel_rfl
theorem wlap14f.bits14 : waitsOk wlap14f.T14.2 wlap14f.B14 = true := by kernel_rfl
def wlap15t.T15 : Bool × List (List Nat × List Nat) := (true, [([], []), ([0], [0]), ([1], [1]), ([2], [2]), ([], []), ([], []), ([5], [5]), ([6], [6]), ([7], [7]), ([4, 8], [4, 8]), ([], []), ([3, 9, 10, 9], [3, 9, 10]), ([11, 11, 0, 1, 2, 3, 4, 5, 6, 7, 8, 9, 10, 11], [11])])
def wlap15t.B15 : List Nat := [0, 1, 3, 7, 0, 0, 32, 96, 224, 496, 0, 2047, 4095]
theorem wlap15t.tab15 : rtab .any (opsOf Try.f36 15) = wlap15t.T15 := by kernel_rfl
theorem wlap15t.bits15 : waitsOk wlap15t.T15.2 wlap15t.B15 = true := by kernel_rfl
def wlap15f.T15 : Bool × List (List Nat × List Nat) := (true, [([], []), ([0], [0]), ([1], [1]), ([2], [2]), ([], []), ([], []), ([5], [5]), ([6], [6]), ([7], [7]), ([4, 8], [4, 8]), ([], []), ([3, 9, 10, 9], [3, 9, 10]), ([11, 11, 0, 1, 2, 3, 4, 5, 6, 7, 8, 9, 10, 11], [11])])
def wlap15f.B15 : List Nat := [0, 1, 3, 7, 0, 0, 32, 96, 224, 496, 0, 2047, 4095]
theorem wlap15f.tab15 : rtab .any (opsOf Try.f36 15) = wlap15f.T15 := by kernel_rfl
theorem wlap15f.bits15 : waitsOk wlap15f.T15.2 wlap15f.B15 = true := by kernel_rfl
def lenOf : Value → Nat
 | .slice _ n _ => n
 | _ => 0
def notB : Value → Nat
 | .bool false => 1
 | _ => 0
theorem wr_now (M : DA) (i : Int) (l : List Int) : (M.wr i l).now.length = M.now.length := by
 unfold DA.wr
 split
 ·unfold DA.put
  have : M.step.now = M.now := by unfold DA.step; split <;> (try split) <;> rfl
  simp [this]
 ·rfl
/-- Where an Append stands: j sectors are laid, r is left. -/
structure ApR (w0 w : World) (p g : Nat) (S : Nat → Prop) (L : LA) (M : DA) (N : Nat) (R : App) (lst : Bool) (j : Nat) (A : Option Addr) (c : Nat) (r : List Int) (Sq : Nat → Prop) (Lq : LA) (Mq : DA) (wr : World) : Prop where
 lg : Lg w0 wr p g Sq Lq Mq
 sub : ∀ k, Sq k → S k ∨ w.heap.size ≤ k
 kp : Kept w wr (fun k => S k ∨ k = p)
 rc : r.length ≤ c
 C : ∀ W', Kept w W' (fun k => S k ∨ k = p) → Kd.C (Kd.int .u8) W' A r.length r
 y : Byt r
 lq : Lq = { L with next := L.next + (j : Int) }
 m0 : lst = true → R = ⟨Lq, Mq, 0⟩
 m1 : lst = false → R = Lq.app Mq (needN r.length) r
 jn : j + (if lst = true then 0 else needN r.length) ≤ N
 ww : Mq.wait.length ≤ M.wait.length + j
 nw : Mq.now.length = M.now.length
 r1 : r.length ≤ 16384
theorem sec_len {n life : Int} {last : Bool} {b : List Int} (h1 : 0 ≤ n + 1 ∧ n + 1 < 18446744073709551616) (h2 : 0 ≤ life ∧ life < 18446744073709551616) (h3 : b.length ≤ 480) : (secB n life last b).length ≤ 512 := by
 have := ten h1
 have := ten h2
 have e : (leb (if last = true then 1 else 0)).length = 1 := by cases last <;> rw [leb_lt (by decide)] <;> rfl
 have e2 : (leb b.length).length ≤ 2 := by have := leb_length 2 b.length (by omega); omega
 unfold secB
 simp only [List.length_append]
 omega
theorem sec_byt {n life : Int} {last : Bool} {b : List Int} (h : Byt b) : Byt (secB n life last b) := by
 unfold secB
 exact Byt.append (Byt.append (Byt.append (leb_byte _) (leb_byte _)) (leb_byte _)) (Byt.append (leb_byte _) h)
theorem app_succ (k : Nat) (r : List Int) : L.app M (k + 1) r = if M.wrE (L.pl L.next) (secB L.next L.life (decide (r.length ≤ 480)) (r.take 480)).length = 0 then
   (if r.length ≤ 480 then ⟨L.app1, M.wr (L.pl L.next) (secB L.next L.life (decide (r.length ≤ 480)) (r.take 480)), 0⟩
    else L.app1.app (M.wr (L.pl L.next) (secB L.next L.life (decide (r.length ≤ 480)) (r.take 480))) k (r.drop 480))
  else ⟨L.app1, M.wr (L.pl L.next) (secB L.next L.life (decide (r.length ≤ 480)) (r.take 480)), M.wrE (L.pl L.next) (secB L.next L.life (decide (r.length ≤ 480)) (r.take 480)).length⟩ := rfl
section
variable {N : Nat} {R : App} {j m : Nat} {A A2 : Option Addr} {c c2 : Nat} {r : List Int} {Sq S' : Nat → Prop} {Lq : LA} {Mq : DA} {wr wr2 : World}
abbrev secQ (Lq : LA) (r : List Int) : List Int := secB Lq.next Lq.life (decide (r.length ≤ 480)) (r.take 480)
theorem ApR.stepT (h : ApR w0 w p g S L M N R false j A c r Sq Lq Mq wr) (hl : r.length ≤ 480) (hm : m = r.length) (hE : Mq.wrE (Lq.pl Lq.next) (secQ Lq r).length = 0) (hg : Lg w0 wr2 p g S' Lq.app1 (Mq.wr (Lq.pl Lq.next) (secQ Lq r))) (hs : ∀ k, S' k → Sq k ∨ wr.heap.size ≤ k)
  (hkp : Kept w wr2 (fun k => S k ∨ k = p)) (hc : (r.drop m).length ≤ c2) (hC : ∀ W', Kept w W' (fun k => S k ∨ k = p) → Kd.C (Kd.int .u8) W' A2 (r.drop m).length (r.drop m)) : ApR w0 w p g S L M N R true (j + 1) A2 c2 (r.drop m) S' Lq.app1 (Mq.wr (Lq.pl Lq.next) (secQ Lq r)) wr2 where
 lg := hg
 sub k hk := (hs k hk).elim (h.sub k) (fun h2 => .inr (Nat.le_trans h.kp.size h2))
 kp := hkp
 rc := hc
 C := hC
 y := h.y.drop m
 lq := by unfold LA.app1; rw [h.lq]; show ({ L with next := L.next + (j : Int) + 1 } : LA) = _; congr 1; omega
 m0 _ := by
  have hn : needN r.length = 0 + 1 := by unfold needN; omega
  rw [h.m1 rfl, hn, app_succ, if_pos hE, if_pos hl]
 m1 h2 := by cases h2
 jn := by have := h.jn; rw [if_neg (by decide)] at this; have : 1 ≤ needN r.length := (by unfold needN; omega); rw [if_pos rfl]; omega
 ww := by have := wr_wait Mq (Lq.pl Lq.next) (secQ Lq r); have := h.ww; omega
 nw := (wr_now _ _ _).trans h.nw
 r1 := by rw [List.length_drop]; have := h.r1; omega
theorem ApR.stepF (h : ApR w0 w p g S L M N R false j A c r Sq Lq Mq wr) (hl : ¬ r.length ≤ 480) (hm : m = 480) (hE : Mq.wrE (Lq.pl Lq.next) (secQ Lq r).length = 0) (hg : Lg w0 wr2 p g S' Lq.app1 (Mq.wr (Lq.pl Lq.next) (secQ Lq r))) (hs : ∀ k, S' k → Sq k ∨ wr.heap.size ≤ k)
  (hkp : Kept w wr2 (fun k => S k ∨ k = p)) (hc : (r.drop m).length ≤ c2) (hC : ∀ W', Kept w W' (fun k => S k ∨ k = p) → Kd.C (Kd.int .u8) W' A2 (r.drop m).length (r.drop m)) : ApR w0 w p g S L M N R false (j + 1) A2 c2 (r.drop m) S' Lq.app1 (Mq.wr (Lq.pl Lq.next) (secQ Lq r)) wr2 where
 lg := hg
 sub k hk := (hs k hk).elim (h.sub k) (fun h2 => .inr (Nat.le_trans h.kp.size h2))
 kp := hkp
 rc := hc
 C := hC
 y := h.y.drop m
 lq := by unfold LA.app1; rw [h.lq]; show ({ L with next := L.next + (j : Int) + 1 } : LA) = _; congr 1; omega
 m0 h2 := by cases h2
 m1 _ := by
  have hn : needN r.length = needN (r.drop m).length + 1 := by rw [List.length_drop]; unfold needN; omega
  rw [h.m1 rfl, hn, app_succ, if_pos hE, if_neg hl, hm]
 jn := by have := h.jn; rw [if_neg (by decide)] at this; rw [if_neg (by decide), List.length_drop]; unfold needN at this ⊢; omega
 ww := by have := wr_wait Mq (Lq.pl Lq.next) (secQ Lq r); have := h.ww; omega
 nw := (wr_now _ _ _).trans h.nw
 r1 := by rw [List.length_drop]; have := h.r1; omega
theorem ApR.stop (h : ApR w0 w p g S L M N R false j A c r Sq Lq Mq wr) (hE : ¬ Mq.wrE (Lq.pl Lq.next) (secQ Lq r).length = 0) : R = ⟨Lq.app1, Mq.wr (Lq.pl Lq.next) (secQ Lq r), Mq.wrE (Lq.pl Lq.next) (secQ Lq r).length⟩ := by
 have hn : needN r.length = (needN r.length - 1) + 1 := by unfold needN; omega
 rw [h.m1 rfl, hn, app_succ, if_neg hE]
end
set_option maxRecDepth 100000 in
set_option maxHeartbeats 4000000 in
theorem append_l (h : Lg w0 w p g S L M) (hk : L.Ok M.now.length) (A : Option Addr) (c : Nat) (l : List Int) (hC : ∀ W', Kept w W' (fun k => S k ∨ k = p) → Kd.C (Kd.int .u8) W' A l.length l) (hc : l.length ≤ c) (hY : Byt l) (hw : M.wait.length < 900000) (hx : L.next ≤ 4611686018437380000) :
  Calls Try.prog 36 #[.pointer (some ⟨p, 0, none⟩), .slice A l.length c] w fun e w' => e = .returned (.tuple #[.int .u64 (L.append M l).lsn, .int .i64 (L.append M l).e]) ∧
   ∃ S', Lg w0 w' p g S' (L.append M l).L (L.append M l).M ∧ (∀ k, S' k → S k ∨ w.heap.size ≤ k) ∧ Kept w w' (fun k => S k ∨ k = p) := by
 have HL := Aside0.mk h
 have HK := Aside0.mk hk
 have HC := Aside0.mk hC
 by_cases hm : 16384 < l.length
 ·have t1 : decide (16384 < l.length) = true := decide_eq_true hm
  have t2 : decide ((16384 : Int) < (l.length : Int)) = true := decide_eq_true (by omega)
  have he : L.append M l = ⟨0, 1, L, M⟩ := if_pos hm
  rw [he]
  clear hm he h hk hC
  go_enter Try.func36, Try.ntmps36
  go_wp2
  go_ret2
  exact ⟨rfl, S, HL.out, fun k hk => .inl hk, Kept.refl _ _⟩
 have t1 : decide (16384 < l.length) = false := decide_eq_false hm
 have t2 : decide ((16384 : Int) < (l.length : Int)) = false := decide_eq_false (by omega)
 by_cases hf : L.free < needN l.length
 ·have t3 : decide (L.free < (needN l.length : Int)) = true := decide_eq_true hf
  have he : L.append M l = ⟨0, 10, L, M⟩ := (if_neg hm).trans (if_pos hf)
  rw [he]
  clear hf he h hk hC
  go_enter Try.func36, Try.ntmps36
  go_wp2_with fail
  refine (need_i _ (by omega) _).mono ?_
  rw [need_N]
  rintro e w1 ⟨rfl, hb⟩
  have HL1 := Aside0.mk (HL.out.below hb)
  have HB1 := Aside0.mk hb
  clear hb HL
  go_wp2_with fail
  refine (free_l HL1.out HK.out).mono ?_
  rintro e w2 ⟨rfl, k, rfl⟩
  have HL2 := Aside0.mk (HL1.out.below (below_drewN w1 k))
  have HB2 := Aside0.mk (below_step HB1.out (below_drewN w1 k))
  clear HL1 HB1
  go_wp2
  go_ret2
  exact ⟨rfl, S, HL2.out, fun k hk => .inl hk, Dk.Kept.of_below HB2.out _⟩
 have t3 : decide (L.free < (needN l.length : Int)) = false := decide_eq_false hf
 obtain ⟨R, hR⟩ : ∃ R, R = L.app M (needN l.length) l := ⟨_, rfl⟩
 have he : L.append M l = ⟨if R.e = 0 then L.next else 0, R.e, R.L, R.M⟩ := by rw [hR]; exact (if_neg hm).trans (if_neg hf)
 rw [he]
 have HR := Aside0.mk hR
 obtain ⟨rl, hrl⟩ : ∃ x, x = if R.e = 0 then L.next else 0 := ⟨_, rfl⟩
 rw [← hrl]
 have HRL := Aside0.mk hrl
 clear hR he h hk hC hrl
 go_enter Try.func36, Try.ntmps36
 go_wp2_with fail
 refine (need_i _ (by omega) _).mono ?_
 rw [need_N]
 rintro e w1 ⟨rfl, hb⟩
 have HL1 := Aside0.mk (HL.out.below hb)
 have HB1 := Aside0.mk hb
 clear hb HL
 go_wp2_with fail
 refine (free_l HL1.out HK.out).mono ?_
 rintro e w2 ⟨rfl, k, rfl⟩
 have HL2 := Aside0.mk (HL1.out.below (below_drewN w1 k))
 have HB2 := Aside0.mk (below_step HB1.out (below_drewN w1 k))
 have c7 : (w1.drewN k).cell? ⟨p, 7, none⟩ = some (.int .u64 L.next) := HL2.out.cell 7 _ rfl
 generalize w1.drewN k = w2 at HL2 HB2 c7 ⊢
 clear HL1 HB1
 have hN : needN l.length ≤ 40 := by unfold needN; omega
 have HJ := Aside0.mk hN
 have HF := Aside0.mk hf
 have HH := Aside0.mk (show ApR w0 w p g S L M (needN l.length) R false 0 A c l S L M w2 from
  ⟨HL2.out, (fun k hk => .inl hk), Dk.Kept.of_below HB2.out _, hc, HC.out, hY, (by simp), (fun h => (by cases h)), (fun _ => HR.out), (by simp), (by omega), rfl, (by omega)⟩)
 clear HL2 HB2 hc hY HC hm hf hN
 have hw9 := Aside0.mk hw
 have hnx := Aside0.mk hx
 clear hw hx
 go_wp2
 clear c7 t1 t2 t3
 go_loopw [7, 8] (fun v7 v8 wr => ∃ (lst : Bool) (j : Nat) (A' : Option Addr) (c' : Nat) (r : List Int), v7 = .slice A' r.length c' ∧ v8 = .bool lst ∧ Aside0 (∃ Sq Lq Mq, ApR w0 w p g S L M (needN l.length) R lst j A' c' r Sq Lq Mq wr)) (fun v7 v8 _ => 2 * lenOf v7 + notB v8)
 case atStart => exact ⟨false, 0, A, c, l, rfl, rfl, ⟨S, L, M, HH.out⟩⟩
 case round =>
  obtain ⟨lst, j, A', c', r, rfl, rfl, hrel⟩ := hrel
  obtain ⟨Sq, Lq, Mq, hap⟩ := hrel.out
  have HA := Aside0.mk hap
  clear hrel hap HH
  cases lst with
  | true =>
   go_wp2
   go_ret2
   have h0 := HA.out.m0 rfl
   have h1 := HRL.out
   rw [h0] at h1 ⊢
   rw [show rl = L.next from h1]
   exact ⟨rfl, Sq, HA.out.lg, HA.out.sub, HA.out.kp⟩
  | false =>
   have hjn := HA.out.jn
   have hlq := HA.out.lq
   have hn1 : 1 ≤ needN r.length := by unfold needN; omega
   have hfr := HF.out
   unfold LA.free at hfr
   have hj40 := HJ.out
   rw [if_neg (by decide)] at hjn
   have hOk : Lq.Ok Mq.now.length := by
    rw [HA.out.nw]
    have hk := HK.out
    rw [hlq]
    exact { hk with sn := by have := hk.sn; show L.start ≤ L.next + (j : Int); omega, nr := by show L.next + (j : Int) ≤ L.start + L.ring; omega, nx := by have := hnx.out; show L.next + (j : Int) ≤ _; omega, c1 := by have := hk.c1; show L.forced ≤ L.next + (j : Int); omega }
   have hk := Aside0.mk hOk
   have hnn := Aside0.mk (show 0 ≤ Lq.next + 1 ∧ Lq.next + 1 < 18446744073709551616 by have := hOk.sn; have := hOk.s0; have := hOk.nx; omega)
   have hll := Aside0.mk (show 0 ≤ Lq.life ∧ Lq.life < 18446744073709551616 by have := hOk.l0; have := hOk.l1; omega)
   have hn0 := Aside0.mk (show 0 ≤ Lq.next ∧ Lq.next < 9223372036854775808 by have := hOk.sn; have := hOk.s0; have := hOk.nx; omega)
   have hnw := Aside0.mk (show IntKind.u64.wrap (Lq.next + 1) = Lq.next + 1 from wu64 hnn.out.1 hnn.out.2)
   have hy := Aside0.mk HA.out.y
   have hrc := HA.out.rc
   have hwt := Aside0.mk (show Mq.wait.length < 1000000 by have := HA.out.ww; have := hw9.out; omega)
   have HL := Aside0.mk HA.out.lg
   have HS := Aside0.mk (fun k hk => (HA.out.lg.D.lt k hk).2)
   have HC := Aside0.mk (HA.out.C wr HA.out.kp)
   obtain ⟨wa, hwa⟩ : ∃ x, x = wr := ⟨_, rfl⟩
   subst hwa
   have HB := Aside0.mk (Below.refl wa.heap.size wa)
   clear hjn hlq hfr hj40 hOk
   by_cases hl : r.length ≤ 480
   ·have hlb : decide (r.length ≤ 480) = true := decide_eq_true hl
    have hmin : min (r.length : Int) 480 = (r.length : Int) := by omega
    have heq : ((r.length : Int) == (r.length : Int)) = true := by simp
    have htk : r.take r.length = r.take 480 := by rw [List.take_length, List.take_of_length_le hl]
    obtain ⟨sB, hsB⟩ : ∃ s, s = secQ Lq r := ⟨_, rfl⟩
    have hsl : sB.length ≤ 512 := by rw [hsB]; exact sec_len hnn.out hll.out (by rw [List.length_take]; omega)
    have hsb : sB = ((([] ++ leb (Lq.next + 1).toNat) ++ leb Lq.life.toNat) ++ leb (1 : Int).toNat) ++ (leb (strOfNums (r.take r.length)).size ++ bytesOf (strOfNums (r.take r.length))) := by
     rw [hsB, secQ, hlb, htk, size_str, back (hy.out.take 480)]; rfl
    have HSB := Aside0.mk hsB
    have HSb := Aside0.mk hsb
    have HSl := Aside0.mk hsl
    have HLL := Aside0.mk hl
    have hmr := Aside0.mk (show r.length ≤ r.length by omega)
    have hmc := Aside0.mk (show r.length ≤ c' by omega)
    have hml := Aside0.mk (show r.length ≤ 480 by omega)
    have h10 := ten hnn.out
    have h11 := ten hll.out
    have h12 := ten (n := 1) (by decide)
    have hle1 := Aside0.mk (show ((([] : List Int) ++ leb (Lq.next + 1).toNat) ++ leb Lq.life.toNat).length ≤ 1000000 by rw [List.length_append, List.nil_append]; omega)
    have hle2 := Aside0.mk (show (((([] : List Int) ++ leb (Lq.next + 1).toNat) ++ leb Lq.life.toNat) ++ leb (1 : Int).toNat).length ≤ 1000000 by rw [List.length_append, List.length_append, List.nil_append]; omega)
    have hts := Aside0.mk (show (strOfNums (r.take r.length)).size ≤ 1000000 by rw [size_str, List.length_take]; omega)
    clear hsB hsb hsl htk h10 h11 h12
    go_upto_region 10 with fail
    refine start_ (n := 12) (S := fun w' => True) (ds := []) #[false, false, false, false, false, false, false, false, false, false, false, false] (by kernel_rfl) rfl rfl trivial (fun hHeld => ?_)
    refine with_tabW wlap10t.tab10 wlap10t.bits10 (fun HT_ HW_ => ?_)
    have n0_ := Aside0.mk (below_drew HB.out)
    clear HB
    generalize World.drew _ = wd at n0_ hHeld ⊢
    have HB := n0_
    clear hHeld n0_
    refine inv_at [0, 1, 2, 3, 4, 5, 6, 7, 8, 9, 10, 11] (fun a0_ b a w' => ∃ (V5 : Value) (V10 : Value) (m11_ : Value), a = putSel a0_ b [(0, 42, .pointer (some ⟨p, 0, none⟩)), (1, 43, .pointer (some ⟨p, 0, none⟩)), (2, 44, .pointer (some ⟨p, 7, none⟩)), (3, 45, .int .u64 Lq.next), (4, 46, .int .u64 (Lq.next + 1)), (5, 47, V5), (6, 48, .pointer (some ⟨p, 0, none⟩)), (7, 49, .pointer (some ⟨p, 0, none⟩)), (8, 50, .pointer (some ⟨p, 4, none⟩)), (9, 51, .int .u64 Lq.life), (10, 52, V10), (11, 10, m11_)] ∧ (Below wa.heap.size wa w') ∧ (b 5 = true → b 10 = false → Rb wa w' V5 (([] : List Int) ++ leb (Lq.next + 1).toNat)) ∧ (b 10 = true → Rb wa w' V10 ((([] : List Int) ++ leb (Lq.next + 1).toNat) ++ leb Lq.life.toNat)) ∧ (b 11 = true → (m11_ : Value) = V10)) HT_.out HW_.out (by kernel_rfl) (by kernel_rfl) ?_ ?_ ?_
    ·exact ⟨(.slice none 0 0), (.slice none 0 0), .bool false, by simp only [putSel, Bool.false_eq_true, if_false], HB.out, fun h_ => absurd h_ (by decide), fun h_ => absurd h_ (by decide), fun h_ => absurd h_ (by decide)⟩
    ·skip
     clear HB
     refine steps_cons ?_ ?_
     ·rintro b a w' ⟨V5, V10, m11_, ha, Q_HB, Q_F5, Q_F10, Q_X11_⟩ hb_ hon hoff
      refine ⟨_, rfl, fun K hK => ?_⟩
      have e0 : a.tmps[0]? = some (.pointer (some ⟨p, 0, none⟩)) := by rw [ha]; exact (putSel_off rfl).trans rfl
      replace ha := Aside0.mk ha
      have HB := Aside0.mk Q_HB
      refine value_ (w1 := w') (v := .pointer (some ⟨p, 0, none⟩)) (by rfl) rfl ?_ ?_
      ·go_simp
       (try simp only [i64_w])
       try rfl
      refine hK.out _ _ ⟨V5, V10, m11_, (by rw [ha.out]; exact putSel_upk 0 hb_ rfl rfl rfl), Q_HB, fun h0_ _ => absurd ((hoff 5 (by kernel_rfl)).symm.trans h0_) (by decide), fun h0_ => absurd ((hoff 10 (by kernel_rfl)).symm.trans h0_) (by decide), fun h0_ => absurd ((hoff 11 (by kernel_rfl)).symm.trans h0_) (by decide)⟩
     refine steps_cons ?_ ?_
     ·rintro b a w' ⟨V5, V10, m11_, ha, Q_HB, Q_F5, Q_F10, Q_X11_⟩ hb_ hon hoff
      refine ⟨_, rfl, fun K hK => ?_⟩
      have e42 : a.tmps[42]? = some (.pointer (some ⟨p, 0, none⟩)) := by rw [ha]; exact putSel_on (e := (0, 42, .pointer (some ⟨p, 0, none⟩))) 0 rfl rfl (hon 0 (by kernel_rfl)) rfl
      replace ha := Aside0.mk ha
      have HB := Aside0.mk Q_HB
      refine value_ (w1 := w') (v := .pointer (some ⟨p, 0, none⟩)) (by rfl) rfl ?_ ?_
      ·go_simp
       (try simp only [i64_w])
       try rfl
      refine hK.out _ _ ⟨V5, V10, m11_, (by rw [ha.out]; exact putSel_upk 1 hb_ rfl rfl rfl), Q_HB, fun h0_ _ => absurd ((hoff 5 (by kernel_rfl)).symm.trans h0_) (by decide), fun h0_ => absurd ((hoff 10 (by kernel_rfl)).symm.trans h0_) (by decide), fun h0_ => absurd ((hoff 11 (by kernel_rfl)).symm.trans h0_) (by decide)⟩
     refine steps_cons ?_ ?_
     ·rintro b a w' ⟨V5, V10, m11_, ha, Q_HB, Q_F5, Q_F10, Q_X11_⟩ hb_ hon hoff
      refine ⟨_, rfl, fun K hK => ?_⟩
      have e43 : a.tmps[43]? = some (.pointer (some ⟨p, 0, none⟩)) := by rw [ha]; exact putSel_on (e := (1, 43, .pointer (some ⟨p, 0, none⟩))) 1 rfl rfl (hon 1 (by kernel_rfl)) rfl
      replace ha := Aside0.mk ha
      have HB := Aside0.mk Q_HB
      refine value_ (w1 := w') (v := .pointer (some ⟨p, 7, none⟩)) (by rfl) rfl ?_ ?_
      ·go_simp
       (try simp only [i64_w])
       try rfl
      refine hK.out _ _ ⟨V5, V10, m11_, (by rw [ha.out]; exact putSel_upk 2 hb_ rfl rfl rfl), Q_HB, fun h0_ _ => absurd ((hoff 5 (by kernel_rfl)).symm.trans h0_) (by decide), fun h0_ => absurd ((hoff 10 (by kernel_rfl)).symm.trans h0_) (by decide), fun h0_ => absurd ((hoff 11 (by kernel_rfl)).symm.trans h0_) (by decide)⟩
     refine steps_cons ?_ ?_
     ·rintro b a w' ⟨V5, V10, m11_, ha, Q_HB, Q_F5, Q_F10, Q_X11_⟩ hb_ hon hoff
      refine ⟨_, rfl, fun K hK => ?_⟩
      have e44 : a.tmps[44]? = some (.pointer (some ⟨p, 7, none⟩)) := by rw [ha]; exact putSel_on (e := (2, 44, .pointer (some ⟨p, 7, none⟩))) 2 rfl rfl (hon 2 (by kernel_rfl)) rfl
      replace ha := Aside0.mk ha
      have HB := Aside0.mk Q_HB
      have hc7_ : w'.cell? ⟨p, 7, none⟩ = some (.int .u64 Lq.next) := (HL.out.below HB.out).cell 7 _ rfl
      refine value_ (w1 := w') (v := .int .u64 Lq.next) (by rfl) rfl ?_ ?_
      ·go_simp
       (try simp only [i64_w])
       try rfl
      refine hK.out _ _ ⟨V5, V10, m11_, (by rw [ha.out]; exact putSel_upk 3 hb_ rfl rfl rfl), Q_HB, fun h0_ _ => absurd ((hoff 5 (by kernel_rfl)).symm.trans h0_) (by decide), fun h0_ => absurd ((hoff 10 (by kernel_rfl)).symm.trans h0_) (by decide), fun h0_ => absurd ((hoff 11 (by kernel_rfl)).symm.trans h0_) (by decide)⟩
     refine steps_cons ?_ ?_
     ·rintro b a w' ⟨V5, V10, m11_, ha, Q_HB, Q_F5, Q_F10, Q_X11_⟩ hb_ hon hoff
      refine ⟨_, rfl, fun K hK => ?_⟩
      have e45 : a.tmps[45]? = some (.int .u64 Lq.next) := by rw [ha]; exact putSel_on (e := (3, 45, .int .u64 Lq.next)) 3 rfl rfl (hon 3 (by kernel_rfl)) rfl
      replace ha := Aside0.mk ha
      have HB := Aside0.mk Q_HB
      have hw_ := hnw.out
      refine value_ (w1 := w') (v := .int .u64 (Lq.next + 1)) (by rfl) rfl ?_ ?_
      ·go_simp
       (try simp only [i64_w])
       try rfl
      refine hK.out _ _ ⟨V5, V10, m11_, (by rw [ha.out]; exact putSel_upk 4 hb_ rfl rfl rfl), Q_HB, fun h0_ _ => absurd ((hoff 5 (by kernel_rfl)).symm.trans h0_) (by decide), fun h0_ => absurd ((hoff 10 (by kernel_rfl)).symm.trans h0_) (by decide), fun h0_ => absurd ((hoff 11 (by kernel_rfl)).symm.trans h0_) (by decide)⟩
     refine steps_cons ?_ ?_
     ·rintro b a w' ⟨V5, V10, m11_, ha, Q_HB, Q_F5, Q_F10, Q_X11_⟩ hb_ hon hoff
      refine ⟨_, rfl, fun K hK => ?_⟩
      have e46 : a.tmps[46]? = some (.int .u64 (Lq.next + 1)) := by rw [ha]; exact putSel_on (e := (4, 46, .int .u64 (Lq.next + 1))) 4 rfl rfl (hon 4 (by kernel_rfl)) rfl
      replace ha := Aside0.mk ha
      have HB := Aside0.mk Q_HB
      refine goes_ Try.func37 (by kernel_rfl) rfl #[.slice none 0 0, .int .u64 (Lq.next + 1)] (by rfl) rfl rfl (by first | (simp only [List.map_toArray, List.map_cons, List.map_nil, Act.eval, Array.getD_eq_getD_getElem?, Option.getD_some, e46]; done) | (simp only [List.map_toArray, List.map_cons, List.map_nil, Act.eval, Array.getD_eq_getD_getElem?, Option.getD_some, e46]; rfl)) ?_
      refine (put_b HB.out (Rb.nil _ _) (Lq.next + 1) hnn.out.1 hnn.out.2 (by decide)).mono ?_
      rintro e_ wn_ ⟨vn_, rfl, hr_, hbw_⟩
      refine ⟨_, rfl, ?_⟩
      refine hK.out _ _ ⟨vn_, V10, m11_, (by rw [ha.out]; exact putSel_upk 5 hb_ rfl rfl rfl), hbw_, fun _ _ => hr_, fun h0_ => absurd ((hoff 10 (by kernel_rfl)).symm.trans h0_) (by decide), fun h0_ => absurd ((hoff 11 (by kernel_rfl)).symm.trans h0_) (by decide)⟩
     refine steps_cons ?_ ?_
     ·rintro b a w' ⟨V5, V10, m11_, ha, Q_HB, Q_F5, Q_F10, Q_X11_⟩ hb_ hon hoff
      refine ⟨_, rfl, fun K hK => ?_⟩
      have e0 : a.tmps[0]? = some (.pointer (some ⟨p, 0, none⟩)) := by rw [ha]; exact (putSel_off rfl).trans rfl
      replace ha := Aside0.mk ha
      have HB := Aside0.mk Q_HB
      refine value_ (w1 := w') (v := .pointer (some ⟨p, 0, none⟩)) (by rfl) rfl ?_ ?_
      ·go_simp
       (try simp only [i64_w])
       try rfl
      refine hK.out _ _ ⟨V5, V10, m11_, (by rw [ha.out]; exact putSel_upk 6 hb_ rfl rfl rfl), Q_HB, Q_F5, fun h0_ => absurd ((hoff 10 (by kernel_rfl)).symm.trans h0_) (by decide), fun h0_ => absurd ((hoff 11 (by kernel_rfl)).symm.trans h0_) (by decide)⟩
     refine steps_cons ?_ ?_
     ·rintro b a w' ⟨V5, V10, m11_, ha, Q_HB, Q_F5, Q_F10, Q_X11_⟩ hb_ hon hoff
      refine ⟨_, rfl, fun K hK => ?_⟩
      have e48 : a.tmps[48]? = some (.pointer (some ⟨p, 0, none⟩)) := by rw [ha]; exact putSel_on (e := (6, 48, .pointer (some ⟨p, 0, none⟩))) 6 rfl rfl (hon 6 (by kernel_rfl)) rfl
      replace ha := Aside0.mk ha
      have HB := Aside0.mk Q_HB
      refine value_ (w1 := w') (v := .pointer (some ⟨p, 0, none⟩)) (by rfl) rfl ?_ ?_
      ·go_simp
       (try simp only [i64_w])
       try rfl
      refine hK.out _ _ ⟨V5, V10, m11_, (by rw [ha.out]; exact putSel_upk 7 hb_ rfl rfl rfl), Q_HB, Q_F5, fun h0_ => absurd ((hoff 10 (by kernel_rfl)).symm.trans h0_) (by decide), fun h0_ => absurd ((hoff 11 (by kernel_rfl)).symm.trans h0_) (by decide)⟩
     refine steps_cons ?_ ?_
     ·rintro b a w' ⟨V5, V10, m11_, ha, Q_HB, Q_F5, Q_F10, Q_X11_⟩ hb_ hon hoff
      refine ⟨_, rfl, fun K hK => ?_⟩
      have e49 : a.tmps[49]? = some (.pointer (some ⟨p, 0, none⟩)) := by rw [ha]; exact putSel_on (e := (7, 49, .pointer (some ⟨p, 0, none⟩))) 7 rfl rfl (hon 7 (by kernel_rfl)) rfl
      replace ha := Aside0.mk ha
      have HB := Aside0.mk Q_HB
      refine value_ (w1 := w') (v := .pointer (some ⟨p, 4, none⟩)) (by rfl) rfl ?_ ?_
      ·go_simp
       (try simp only [i64_w])
       try rfl
      refine hK.out _ _ ⟨V5, V10, m11_, (by rw [ha.out]; exact putSel_upk 8 hb_ rfl rfl rfl), Q_HB, Q_F5, fun h0_ => absurd ((hoff 10 (by kernel_rfl)).symm.trans h0_) (by decide), fun h0_ => absurd ((hoff 11 (by kernel_rfl)).symm.trans h0_) (by decide)⟩
     refine steps_cons ?_ ?_
     ·rintro b a w' ⟨V5, V10, m11_, ha, Q_HB, Q_F5, Q_F10, Q_X11_⟩ hb_ hon hoff
      refine ⟨_, rfl, fun K hK => ?_⟩
      have e50 : a.tmps[50]? = some (.pointer (some ⟨p, 4, none⟩)) := by rw [ha]; exact putSel_on (e := (8, 50, .pointer (some ⟨p, 4, none⟩))) 8 rfl rfl (hon 8 (by kernel_rfl)) rfl
      replace ha := Aside0.mk ha
      have HB := Aside0.mk Q_HB
      have hc4_ : w'.cell? ⟨p, 4, none⟩ = some (.int .u64 Lq.life) := (HL.out.below HB.out).cell 4 _ rfl
      refine value_ (w1 := w') (v := .int .u64 Lq.life) (by rfl) rfl ?_ ?_
      ·go_simp
       (try simp only [i64_w])
       try rfl
      refine hK.out _ _ ⟨V5, V10, m11_, (by rw [ha.out]; exact putSel_upk 9 hb_ rfl rfl rfl), Q_HB, Q_F5, fun h0_ => absurd ((hoff 10 (by kernel_rfl)).symm.trans h0_) (by decide), fun h0_ => absurd ((hoff 11 (by kernel_rfl)).symm.trans h0_) (by decide)⟩
     refine steps_cons ?_ ?_
     ·rintro b a w' ⟨V5, V10, m11_, ha, Q_HB, Q_F5, Q_F10, Q_X11_⟩ hb_ hon hoff
      refine ⟨_, rfl, fun K hK => ?_⟩
      have e47 : a.tmps[47]? = some (V5) := by rw [ha]; exact putSel_on (e := (5, 47, V5)) 5 rfl rfl (hon 5 (by kernel_rfl)) rfl
      have e51 : a.tmps[51]? = some (.int .u64 Lq.life) := by rw [ha]; exact putSel_on (e := (9, 51, .int .u64 Lq.life)) 9 rfl rfl (hon 9 (by kernel_rfl)) rfl
      replace ha := Aside0.mk ha
      have HB := Aside0.mk Q_HB
      have F5 := Aside0.mk (Q_F5 (hon 5 (by kernel_rfl)) hb_)
      refine goes_ Try.func37 (by kernel_rfl) rfl #[V5, .int .u64 Lq.life] (by rfl) rfl rfl (by first | (simp only [List.map_toArray, List.map_cons, List.map_nil, Act.eval, Array.getD_eq_getD_getElem?, Option.getD_some, e47, e51]; done) | (simp only [List.map_toArray, List.map_cons, List.map_nil, Act.eval, Array.getD_eq_getD_getElem?, Option.getD_some, e47, e51]; rfl)) ?_
      refine (put_b HB.out F5.out Lq.life hll.out.1 hll.out.2 (by rw [List.nil_append]; have := ten hnn.out; omega)).mono ?_
      rintro e_ wn_ ⟨vn_, rfl, hr_, hbw_⟩
      refine ⟨_, rfl, ?_⟩
      refine hK.out _ _ ⟨V5, vn_, m11_, (by rw [ha.out]; exact putSel_upk 10 hb_ rfl rfl rfl), hbw_, fun _ h1_ => absurd ((up_self b 10).symm.trans h1_) (by decide), fun _ => hr_, fun h0_ => absurd ((hoff 11 (by kernel_rfl)).symm.trans h0_) (by decide)⟩
     refine steps_cons ?_ ?_
     ·rintro b a w' ⟨V5, V10, m11_, ha, Q_HB, Q_F5, Q_F10, Q_X11_⟩ hb_ hon hoff
      refine ⟨_, rfl, fun K hK => ?_⟩
      have e52 : a.tmps[52]? = some (V10) := by rw [ha]; exact putSel_on (e := (10, 52, V10)) 10 rfl rfl (hon 10 (by kernel_rfl)) rfl
      replace ha := Aside0.mk ha
      have HB := Aside0.mk Q_HB
      have F10 := Aside0.mk (Q_F10 (hon 10 (by kernel_rfl)))
      refine value_ (w1 := w') (v := V10) (by rfl) rfl ?_ ?_
      ·go_simp
       (try simp only [i64_w])
       try rfl
      refine hK.out _ _ ⟨V5, V10, (V10), (by rw [ha.out]; exact putSel_upk 11 hb_ rfl rfl rfl), Q_HB, fun _ h1_ => absurd ((hon 10 (by kernel_rfl)).symm.trans h1_) (by decide), Q_F10, fun _ => rfl⟩
     exact steps_nil
    rintro b a w' hall ⟨V5, V10, m11_, ha, Q_HB, Q_F5, Q_F10, Q_X11_⟩
    clear HB
    have hb0_ := hall 0 (by kernel_rfl)
    have hb1_ := hall 1 (by kernel_rfl)
    have hb2_ := hall 2 (by kernel_rfl)
    have hb3_ := hall 3 (by kernel_rfl)
    have hb4_ := hall 4 (by kernel_rfl)
    have hb5_ := hall 5 (by kernel_rfl)
    have hb6_ := hall 6 (by kernel_rfl)
    have hb7_ := hall 7 (by kernel_rfl)
    have hb8_ := hall 8 (by kernel_rfl)
    have hb9_ := hall 9 (by kernel_rfl)
    have hb10_ := hall 10 (by kernel_rfl)
    have hb11_ := hall 11 (by kernel_rfl)
    subst ha
    obtain rfl := Q_X11_ hb11_
    simp only [putSel, hb0_, hb1_, hb2_, hb3_, hb4_, hb5_, hb6_, hb7_, hb8_, hb9_, hb10_, hb11_, if_true, Act.put, List.setIfInBounds_toArray, List.set_cons_zero, List.set_cons_succ]
    have HB := Aside0.mk Q_HB
    clear Q_HB Q_F5
    have F10 := Aside0.mk (Q_F10 hb10_)
    clear Q_F10
    clear hall hb0_ hb1_ hb2_ hb3_ hb4_ hb5_ hb6_ hb7_ hb8_ hb9_ hb10_ hb11_
    go_upto_region 14 with fail
    have F0 := F10
    clear F10
    refine start_ (n := 9) (S := fun w' => True) (ds := []) #[false, false, false, false, false, false, false, false, false] (by kernel_rfl) rfl rfl trivial (fun hHeld => ?_)
    refine with_tabW wlap14t.tab14 wlap14t.bits14 (fun HT_ HW_ => ?_)
    have n0_ := Aside0.mk (below_drew HB.out)
    have n1_ := Aside0.mk (Kd.R_drew F0.out)
    clear HB F0
    generalize World.drew _ = wd at n0_ n1_ hHeld ⊢
    have HB := n0_
    have F0 := n1_
    clear hHeld n0_ n1_
    refine inv_at [0, 1, 2, 3, 4, 5, 6, 7, 8] (fun a0_ b a w' => ∃ (V2 : Value) (V7 : Value) (m8_ : Value), a = putSel a0_ b [(0, 54, m11_), (1, 55, .int .u64 1), (2, 56, V2), (3, 57, .slice A' r.length c'), (4, 58, .int .i64 (r.length : Int)), (5, 59, .slice A' r.length c'), (6, 60, .string (strOfNums (r.take r.length))), (7, 61, V7), (8, 10, m8_)] ∧ (Below wa.heap.size wa w') ∧ (b 2 = false → Rb wa w' m11_ ((([] : List Int) ++ leb (Lq.next + 1).toNat) ++ leb Lq.life.toNat)) ∧ (b 2 = true → b 7 = false → Rb wa w' V2 (((([] : List Int) ++ leb (Lq.next + 1).toNat) ++ leb Lq.life.toNat) ++ leb (1 : Int).toNat)) ∧ (b 7 = true → Rb wa w' V7 ((((([] : List Int) ++ leb (Lq.next + 1).toNat) ++ leb Lq.life.toNat) ++ leb (1 : Int).toNat) ++ (leb (strOfNums (r.take r.length)).size ++ bytesOf (strOfNums (r.take r.length))))) ∧ (b 8 = true → (m8_ : Value) = V7)) HT_.out HW_.out (by kernel_rfl) (by kernel_rfl) ?_ ?_ ?_
    ·exact ⟨(.slice none 0 0), (.slice none 0 0), .bool false, by simp only [putSel, Bool.false_eq_true, if_false], HB.out, fun _ => F0.out, fun h_ => absurd h_ (by decide), fun h_ => absurd h_ (by decide), fun h_ => absurd h_ (by decide)⟩
    ·skip
     clear F0 HB
     refine steps_cons ?_ ?_
     ·rintro b a w' ⟨V2, V7, m8_, ha, Q_HB, Q_F0, Q_F2, Q_F7, Q_X8_⟩ hb_ hon hoff
      refine ⟨_, rfl, fun K hK => ?_⟩
      have e10 : a.tmps[10]? = some (m11_) := by rw [ha]; exact (putSel_not (hoff 8 (by kernel_rfl)) rfl).trans rfl
      replace ha := Aside0.mk ha
      have HB := Aside0.mk Q_HB
      have F0 := Aside0.mk (Q_F0 (hoff 2 (by kernel_rfl)))
      refine value_ (w1 := w') (v := m11_) (by rfl) rfl ?_ ?_
      ·go_simp
       (try simp only [i64_w])
       try rfl
      refine hK.out _ _ ⟨V2, V7, m8_, (by rw [ha.out]; exact putSel_upk 0 hb_ rfl rfl rfl), Q_HB, Q_F0, fun h0_ _ => absurd ((hoff 2 (by kernel_rfl)).symm.trans h0_) (by decide), fun h0_ => absurd ((hoff 7 (by kernel_rfl)).symm.trans h0_) (by decide), fun h0_ => absurd ((hoff 8 (by kernel_rfl)).symm.trans h0_) (by decide)⟩
     refine steps_cons ?_ ?_
     ·rintro b a w' ⟨V2, V7, m8_, ha, Q_HB, Q_F0, Q_F2, Q_F7, Q_X8_⟩ hb_ hon hoff
      refine ⟨_, rfl, fun K hK => ?_⟩
      have e11 : a.tmps[11]? = some (.int .u64 1) := by rw [ha]; exact (putSel_off rfl).trans rfl
      replace ha := Aside0.mk ha
      have HB := Aside0.mk Q_HB
      have F0 := Aside0.mk (Q_F0 (hoff 2 (by kernel_rfl)))
      refine value_ (w1 := w') (v := .int .u64 1) (by rfl) rfl ?_ ?_
      ·go_simp
       (try simp only [i64_w])
       try rfl
      refine hK.out _ _ ⟨V2, V7, m8_, (by rw [ha.out]; exact putSel_upk 1 hb_ rfl rfl rfl), Q_HB, Q_F0, fun h0_ _ => absurd ((hoff 2 (by kernel_rfl)).symm.trans h0_) (by decide), fun h0_ => absurd ((hoff 7 (by kernel_rfl)).symm.trans h0_) (by decide), fun h0_ => absurd ((hoff 8 (by kernel_rfl)).symm.trans h0_) (by decide)⟩
     refine steps_cons ?_ ?_
     ·rintro b a w' ⟨V2, V7, m8_, ha, Q_HB, Q_F0, Q_F2, Q_F7, Q_X8_⟩ hb_ hon hoff
      refine ⟨_, rfl, fun K hK => ?_⟩
      have e54 : a.tmps[54]? = some (m11_) := by rw [ha]; exact putSel_on (e := (0, 54, m11_)) 0 rfl rfl (hon 0 (by kernel_rfl)) rfl
      have e55 : a.tmps[55]? = some (.int .u64 1) := by rw [ha]; exact putSel_on (e := (1, 55, .int .u64 1)) 1 rfl rfl (hon 1 (by kernel_rfl)) rfl
      replace ha := Aside0.mk ha
      have HB := Aside0.mk Q_HB
      have F0 := Aside0.mk (Q_F0 hb_)
      refine goes_ Try.func37 (by kernel_rfl) rfl #[m11_, .int .u64 1] (by rfl) rfl rfl (by first | (simp only [List.map_toArray, List.map_cons, List.map_nil, Act.eval, Array.getD_eq_getD_getElem?, Option.getD_some, e54, e55]; done) | (simp only [List.map_toArray, List.map_cons, List.map_nil, Act.eval, Array.getD_eq_getD_getElem?, Option.getD_some, e54, e55]; rfl)) ?_
      refine (put_b HB.out F0.out 1 (by decide) (by decide) hle1.out).mono ?_
      rintro e_ wn_ ⟨vn_, rfl, hr_, hbw_⟩
      refine ⟨_, rfl, ?_⟩
      refine hK.out _ _ ⟨vn_, V7, m8_, (by rw [ha.out]; exact putSel_upk 2 hb_ rfl rfl rfl), hbw_, fun h0_ => absurd ((up_self b 2).symm.trans h0_) (by decide), fun _ _ => hr_, fun h0_ => absurd ((hoff 7 (by kernel_rfl)).symm.trans h0_) (by decide), fun h0_ => absurd ((hoff 8 (by kernel_rfl)).symm.trans h0_) (by decide)⟩
     refine steps_cons ?_ ?_
     ·rintro b a w' ⟨V2, V7, m8_, ha, Q_HB, Q_F0, Q_F2, Q_F7, Q_X8_⟩ hb_ hon hoff
      refine ⟨_, rfl, fun K hK => ?_⟩
      have e7 : a.tmps[7]? = some (.slice A' r.length c') := by rw [ha]; exact (putSel_off rfl).trans rfl
      replace ha := Aside0.mk ha
      have HB := Aside0.mk Q_HB
      refine value_ (w1 := w') (v := .slice A' r.length c') (by rfl) rfl ?_ ?_
      ·go_simp
       (try simp only [i64_w])
       try rfl
      refine hK.out _ _ ⟨V2, V7, m8_, (by rw [ha.out]; exact putSel_upk 3 hb_ rfl rfl rfl), Q_HB, Q_F0, Q_F2, fun h0_ => absurd ((hoff 7 (by kernel_rfl)).symm.trans h0_) (by decide), fun h0_ => absurd ((hoff 8 (by kernel_rfl)).symm.trans h0_) (by decide)⟩
     refine steps_cons ?_ ?_
     ·rintro b a w' ⟨V2, V7, m8_, ha, Q_HB, Q_F0, Q_F2, Q_F7, Q_X8_⟩ hb_ hon hoff
      refine ⟨_, rfl, fun K hK => ?_⟩
      have e9 : a.tmps[9]? = some (.int .i64 (r.length : Int)) := by rw [ha]; exact (putSel_off rfl).trans rfl
      replace ha := Aside0.mk ha
      have HB := Aside0.mk Q_HB
      refine value_ (w1 := w') (v := .int .i64 (r.length : Int)) (by rfl) rfl ?_ ?_
      ·go_simp
       (try simp only [i64_w])
       try rfl
      refine hK.out _ _ ⟨V2, V7, m8_, (by rw [ha.out]; exact putSel_upk 4 hb_ rfl rfl rfl), Q_HB, Q_F0, Q_F2, fun h0_ => absurd ((hoff 7 (by kernel_rfl)).symm.trans h0_) (by decide), fun h0_ => absurd ((hoff 8 (by kernel_rfl)).symm.trans h0_) (by decide)⟩
     refine steps_cons ?_ ?_
     ·rintro b a w' ⟨V2, V7, m8_, ha, Q_HB, Q_F0, Q_F2, Q_F7, Q_X8_⟩ hb_ hon hoff
      refine ⟨_, rfl, fun K hK => ?_⟩
      have e57 : a.tmps[57]? = some (.slice A' r.length c') := by rw [ha]; exact putSel_on (e := (3, 57, .slice A' r.length c')) 3 rfl rfl (hon 3 (by kernel_rfl)) rfl
      have e58 : a.tmps[58]? = some (.int .i64 (r.length : Int)) := by rw [ha]; exact putSel_on (e := (4, 58, .int .i64 (r.length : Int))) 4 rfl rfl (hon 4 (by kernel_rfl)) rfl
      replace ha := Aside0.mk ha
      have HB := Aside0.mk Q_HB
      have hmc_ := hmc.out
      refine value_ (w1 := w') (v := .slice A' r.length c') (by rfl) rfl ?_ ?_
      ·go_simp
       (try simp only [i64_w])
       try rfl
      refine hK.out _ _ ⟨V2, V7, m8_, (by rw [ha.out]; exact putSel_upk 5 hb_ rfl rfl rfl), Q_HB, Q_F0, Q_F2, fun h0_ => absurd ((hoff 7 (by kernel_rfl)).symm.trans h0_) (by decide), fun h0_ => absurd ((hoff 8 (by kernel_rfl)).symm.trans h0_) (by decide)⟩
     refine steps_cons ?_ ?_
     ·rintro b a w' ⟨V2, V7, m8_, ha, Q_HB, Q_F0, Q_F2, Q_F7, Q_X8_⟩ hb_ hon hoff
      refine ⟨_, rfl, fun K hK => ?_⟩
      have e59 : a.tmps[59]? = some (.slice A' r.length c') := by rw [ha]; exact putSel_on (e := (5, 59, .slice A' r.length c')) 5 rfl rfl (hon 5 (by kernel_rfl)) rfl
      replace ha := Aside0.mk ha
      have HB := Aside0.mk Q_HB
      have hcv_ := cv_take HC.out HB.out c' hmr.out
      refine value_ (w1 := w') (v := .string (strOfNums (r.take r.length))) (by rfl) rfl ?_ ?_
      ·go_simp
       (try simp only [i64_w])
       try rfl
      refine hK.out _ _ ⟨V2, V7, m8_, (by rw [ha.out]; exact putSel_upk 6 hb_ rfl rfl rfl), Q_HB, Q_F0, Q_F2, fun h0_ => absurd ((hoff 7 (by kernel_rfl)).symm.trans h0_) (by decide), fun h0_ => absurd ((hoff 8 (by kernel_rfl)).symm.trans h0_) (by decide)⟩
     refine steps_cons ?_ ?_
     ·rintro b a w' ⟨V2, V7, m8_, ha, Q_HB, Q_F0, Q_F2, Q_F7, Q_X8_⟩ hb_ hon hoff
      refine ⟨_, rfl, fun K hK => ?_⟩
      have e56 : a.tmps[56]? = some (V2) := by rw [ha]; exact putSel_on (e := (2, 56, V2)) 2 rfl rfl (hon 2 (by kernel_rfl)) rfl
      have e60 : a.tmps[60]? = some (.string (strOfNums (r.take r.length))) := by rw [ha]; exact putSel_on (e := (6, 60, .string (strOfNums (r.take r.length)))) 6 rfl rfl (hon 6 (by kernel_rfl)) rfl
      replace ha := Aside0.mk ha
      have HB := Aside0.mk Q_HB
      have F2 := Aside0.mk (Q_F2 (hon 2 (by kernel_rfl)) hb_)
      refine goes_ Try.func38 (by kernel_rfl) rfl #[V2, .string (strOfNums (r.take r.length))] (by rfl) rfl rfl (by first | (simp only [List.map_toArray, List.map_cons, List.map_nil, Act.eval, Array.getD_eq_getD_getElem?, Option.getD_some, e56, e60]; done) | (simp only [List.map_toArray, List.map_cons, List.map_nil, Act.eval, Array.getD_eq_getD_getElem?, Option.getD_some, e56, e60]; rfl)) ?_
      refine (text_b HB.out F2.out (strOfNums (r.take r.length)) hts.out hle2.out).mono ?_
      rintro e_ wn_ ⟨vn_, rfl, hr_, hbw_⟩
      refine ⟨_, rfl, ?_⟩
      refine hK.out _ _ ⟨V2, vn_, m8_, (by rw [ha.out]; exact putSel_upk 7 hb_ rfl rfl rfl), hbw_, fun h0_ => absurd ((hon 2 (by kernel_rfl)).symm.trans h0_) (by decide), fun _ h1_ => absurd ((up_self b 7).symm.trans h1_) (by decide), fun _ => hr_, fun h0_ => absurd ((hoff 8 (by kernel_rfl)).symm.trans h0_) (by decide)⟩
     refine steps_cons ?_ ?_
     ·rintro b a w' ⟨V2, V7, m8_, ha, Q_HB, Q_F0, Q_F2, Q_F7, Q_X8_⟩ hb_ hon hoff
      refine ⟨_, rfl, fun K hK => ?_⟩
      have e61 : a.tmps[61]? = some (V7) := by rw [ha]; exact putSel_on (e := (7, 61, V7)) 7 rfl rfl (hon 7 (by kernel_rfl)) rfl
      replace ha := Aside0.mk ha
      have HB := Aside0.mk Q_HB
      have F7 := Aside0.mk (Q_F7 (hon 7 (by kernel_rfl)))
      refine value_ (w1 := w') (v := V7) (by rfl) rfl ?_ ?_
      ·go_simp
       (try simp only [i64_w])
       try rfl
      refine hK.out _ _ ⟨V2, V7, (V7), (by rw [ha.out]; exact putSel_upk 8 hb_ rfl rfl rfl), Q_HB, fun h0_ => absurd ((hon 2 (by kernel_rfl)).symm.trans h0_) (by decide), fun _ h1_ => absurd ((hon 7 (by kernel_rfl)).symm.trans h1_) (by decide), Q_F7, fun _ => rfl⟩
     exact steps_nil
    rintro b a w' hall ⟨V2, V7, m8_, ha, Q_HB, Q_F0, Q_F2, Q_F7, Q_X8_⟩
    clear F0 HB
    have hb0_ := hall 0 (by kernel_rfl)
    have hb1_ := hall 1 (by kernel_rfl)
    have hb2_ := hall 2 (by kernel_rfl)
    have hb3_ := hall 3 (by kernel_rfl)
    have hb4_ := hall 4 (by kernel_rfl)
    have hb5_ := hall 5 (by kernel_rfl)
    have hb6_ := hall 6 (by kernel_rfl)
    have hb7_ := hall 7 (by kernel_rfl)
    have hb8_ := hall 8 (by kernel_rfl)
    subst ha
    obtain rfl := Q_X8_ hb8_
    simp only [putSel, hb0_, hb1_, hb2_, hb3_, hb4_, hb5_, hb6_, hb7_, hb8_, if_true, Act.put, List.setIfInBounds_toArray, List.set_cons_zero, List.set_cons_succ]
    have HB := Aside0.mk Q_HB
    clear Q_HB Q_F0 Q_F2
    have F7 := Aside0.mk (Q_F7 hb7_)
    clear Q_F7
    clear hall hb0_ hb1_ hb2_ hb3_ hb4_ hb5_ hb6_ hb7_ hb8_
    obtain ⟨A10, c10, hv, hcc, _⟩ := F7.out.open_
    have hF := F7.out
    rw [← HSb.out] at hv hF hcc
    subst hv
    have HR2 := Aside0.mk hF
    have hc10 := Aside0.mk hcc
    clear F7 hF hcc
    go_upto_region 15 with fail
    have HR := HR2
    clear HR2
    refine start_ (n := 13) (S := fun w' => True) (ds := []) #[false, false, false, false, false, false, false, false, false, false, false, false, false] (by kernel_rfl) rfl rfl trivial (fun hHeld => ?_)
    refine with_tabW wlap15t.tab15 wlap15t.bits15 (fun HT_ HW_ => ?_)
    have n0_ := Aside0.mk (below_drew HB.out)
    have n1_ := Aside0.mk (Kd.R_drew HR.out)
    clear HB HR
    generalize World.drew _ = wd at n0_ n1_ hHeld ⊢
    have HB := n0_
    have HR := n1_
    clear hHeld n0_ n1_
    refine inv_at [0, 1, 2, 3, 4, 5, 6, 7, 8, 9, 10, 11, 12] (fun a0_ b a w' => a = putSel a0_ b [(0, 62, .pointer (some ⟨p, 0, none⟩)), (1, 63, .pointer (some ⟨p, 0, none⟩)), (2, 64, .pointer (some ⟨p, 0, none⟩)), (3, 65, .pointer (some ⟨g, 0, none⟩)), (4, 66, .pointer (some ⟨p, 0, none⟩)), (5, 67, .pointer (some ⟨p, 0, none⟩)), (6, 68, .pointer (some ⟨p, 0, none⟩)), (7, 69, .pointer (some ⟨p, 7, none⟩)), (8, 70, .int .u64 Lq.next), (9, 71, .int .i64 (Lq.pl Lq.next)), (10, 72, .slice A10 sB.length c10), (11, 73, .int .i64 (Mq.wrE (Lq.pl Lq.next) sB.length)), (12, 12, .int .i64 (Mq.wrE (Lq.pl Lq.next) sB.length))] ∧ (b 11 = false → Below wa.heap.size wa w') ∧ (b 11 = false → Rb wa w' (.slice A10 sB.length c10) sB) ∧ (b 11 = true → ∃ S', Lg w0 w' p g S' Lq (Mq.wr (Lq.pl Lq.next) sB) ∧ (∀ k, S' k → Sq k ∨ wa.heap.size ≤ k) ∧ Kept wa w' Sq)) HT_.out HW_.out (by kernel_rfl) (by kernel_rfl) ?_ ?_ ?_
    ·exact ⟨by simp only [putSel, Bool.false_eq_true, if_false], fun _ => HB.out, fun _ => HR.out, fun h_ => absurd h_ (by decide)⟩
    ·skip
     clear HB HR
     refine steps_cons ?_ ?_
     ·rintro b a w' ⟨ha, Q_HB, Q_HR, Q_HN⟩ hb_ hon hoff
      refine ⟨_, rfl, fun K hK => ?_⟩
      have e0 : a.tmps[0]? = some (.pointer (some ⟨p, 0, none⟩)) := by rw [ha]; exact (putSel_off rfl).trans rfl
      replace ha := Aside0.mk ha
      have HB := Aside0.mk (Q_HB (hoff 11 (by kernel_rfl)))
      have HR := Aside0.mk (Q_HR (hoff 11 (by kernel_rfl)))
      refine value_ (w1 := w') (v := .pointer (some ⟨p, 0, none⟩)) (by rfl) rfl ?_ ?_
      ·go_simp
       (try simp only [i64_w])
       try rfl
      refine hK.out _ _ ⟨(by rw [ha.out]; exact putSel_upk 0 hb_ rfl rfl rfl), Q_HB, Q_HR, fun h0_ => absurd ((hoff 11 (by kernel_rfl)).symm.trans h0_) (by decide)⟩
     refine steps_cons ?_ ?_
     ·rintro b a w' ⟨ha, Q_HB, Q_HR, Q_HN⟩ hb_ hon hoff
      refine ⟨_, rfl, fun K hK => ?_⟩
      have e62 : a.tmps[62]? = some (.pointer (some ⟨p, 0, none⟩)) := by rw [ha]; exact putSel_on (e := (0, 62, .pointer (some ⟨p, 0, none⟩))) 0 rfl rfl (hon 0 (by kernel_rfl)) rfl
      replace ha := Aside0.mk ha
      have HB := Aside0.mk (Q_HB (hoff 11 (by kernel_rfl)))
      have HR := Aside0.mk (Q_HR (hoff 11 (by kernel_rfl)))
      refine value_ (w1 := w') (v := .pointer (some ⟨p, 0, none⟩)) (by rfl) rfl ?_ ?_
      ·go_simp
       (try simp only [i64_w])
       try rfl
      refine hK.out _ _ ⟨(by rw [ha.out]; exact putSel_upk 1 hb_ rfl rfl rfl), Q_HB, Q_HR, fun h0_ => absurd ((hoff 11 (by kernel_rfl)).symm.trans h0_) (by decide)⟩
     refine steps_cons ?_ ?_
     ·rintro b a w' ⟨ha, Q_HB, Q_HR, Q_HN⟩ hb_ hon hoff
      refine ⟨_, rfl, fun K hK => ?_⟩
      have e63 : a.tmps[63]? = some (.pointer (some ⟨p, 0, none⟩)) := by rw [ha]; exact putSel_on (e := (1, 63, .pointer (some ⟨p, 0, none⟩))) 1 rfl rfl (hon 1 (by kernel_rfl)) rfl
      replace ha := Aside0.mk ha
      have HB := Aside0.mk (Q_HB (hoff 11 (by kernel_rfl)))
      have HR := Aside0.mk (Q_HR (hoff 11 (by kernel_rfl)))
      refine value_ (w1 := w') (v := .pointer (some ⟨p, 0, none⟩)) (by rfl) rfl ?_ ?_
      ·go_simp
       (try simp only [i64_w])
       try rfl
      refine hK.out _ _ ⟨(by rw [ha.out]; exact putSel_upk 2 hb_ rfl rfl rfl), Q_HB, Q_HR, fun h0_ => absurd ((hoff 11 (by kernel_rfl)).symm.trans h0_) (by decide)⟩
     refine steps_cons ?_ ?_
     ·rintro b a w' ⟨ha, Q_HB, Q_HR, Q_HN⟩ hb_ hon hoff
      refine ⟨_, rfl, fun K hK => ?_⟩
      have e64 : a.tmps[64]? = some (.pointer (some ⟨p, 0, none⟩)) := by rw [ha]; exact putSel_on (e := (2, 64, .pointer (some ⟨p, 0, none⟩))) 2 rfl rfl (hon 2 (by kernel_rfl)) rfl
      replace ha := Aside0.mk ha
      have HB := Aside0.mk (Q_HB (hoff 11 (by kernel_rfl)))
      have HR := Aside0.mk (Q_HR (hoff 11 (by kernel_rfl)))
      have hc0_ : w'.cell? ⟨p, 0, none⟩ = some (.pointer (some ⟨g, 0, none⟩)) := (HL.out.below HB.out).cell 0 _ rfl
      refine value_ (w1 := w') (v := .pointer (some ⟨g, 0, none⟩)) (by rfl) rfl ?_ ?_
      ·go_simp
       (try simp only [i64_w])
       try rfl
      refine hK.out _ _ ⟨(by rw [ha.out]; exact putSel_upk 3 hb_ rfl rfl rfl), Q_HB, Q_HR, fun h0_ => absurd ((hoff 11 (by kernel_rfl)).symm.trans h0_) (by decide)⟩
     refine steps_cons ?_ ?_
     ·rintro b a w' ⟨ha, Q_HB, Q_HR, Q_HN⟩ hb_ hon hoff
      refine ⟨_, rfl, fun K hK => ?_⟩
      have e0 : a.tmps[0]? = some (.pointer (some ⟨p, 0, none⟩)) := by rw [ha]; exact (putSel_off rfl).trans rfl
      replace ha := Aside0.mk ha
      have HB := Aside0.mk (Q_HB (hoff 11 (by kernel_rfl)))
      have HR := Aside0.mk (Q_HR (hoff 11 (by kernel_rfl)))
      refine value_ (w1 := w') (v := .pointer (some ⟨p, 0, none⟩)) (by rfl) rfl ?_ ?_
      ·go_simp
       (try simp only [i64_w])
       try rfl
      refine hK.out _ _ ⟨(by rw [ha.out]; exact putSel_upk 4 hb_ rfl rfl rfl), Q_HB, Q_HR, fun h0_ => absurd ((hoff 11 (by kernel_rfl)).symm.trans h0_) (by decide)⟩
     refine steps_cons ?_ ?_
     ·rintro b a w' ⟨ha, Q_HB, Q_HR, Q_HN⟩ hb_ hon hoff
      refine ⟨_, rfl, fun K hK => ?_⟩
      have e0 : a.tmps[0]? = some (.pointer (some ⟨p, 0, none⟩)) := by rw [ha]; exact (putSel_off rfl).trans rfl
      replace ha := Aside0.mk ha
      have HB := Aside0.mk (Q_HB (hoff 11 (by kernel_rfl)))
      have HR := Aside0.mk (Q_HR (hoff 11 (by kernel_rfl)))
      refine value_ (w1 := w') (v := .pointer (some ⟨p, 0, none⟩)) (by rfl) rfl ?_ ?_
      ·go_simp
       (try simp only [i64_w])
       try rfl
      refine hK.out _ _ ⟨(by rw [ha.out]; exact putSel_upk 5 hb_ rfl rfl rfl), Q_HB, Q_HR, fun h0_ => absurd ((hoff 11 (by kernel_rfl)).symm.trans h0_) (by decide)⟩
     refine steps_cons ?_ ?_
     ·rintro b a w' ⟨ha, Q_HB, Q_HR, Q_HN⟩ hb_ hon hoff
      refine ⟨_, rfl, fun K hK => ?_⟩
      have e67 : a.tmps[67]? = some (.pointer (some ⟨p, 0, none⟩)) := by rw [ha]; exact putSel_on (e := (5, 67, .pointer (some ⟨p, 0, none⟩))) 5 rfl rfl (hon 5 (by kernel_rfl)) rfl
      replace ha := Aside0.mk ha
      have HB := Aside0.mk (Q_HB (hoff 11 (by kernel_rfl)))
      have HR := Aside0.mk (Q_HR (hoff 11 (by kernel_rfl)))
      refine value_ (w1 := w') (v := .pointer (some ⟨p, 0, none⟩)) (by rfl) rfl ?_ ?_
      ·go_simp
       (try simp only [i64_w])
       try rfl
      refine hK.out _ _ ⟨(by rw [ha.out]; exact putSel_upk 6 hb_ rfl rfl rfl), Q_HB, Q_HR, fun h0_ => absurd ((hoff 11 (by kernel_rfl)).symm.trans h0_) (by decide)⟩
     refine steps_cons ?_ ?_
     ·rintro b a w' ⟨ha, Q_HB, Q_HR, Q_HN⟩ hb_ hon hoff
      refine ⟨_, rfl, fun K hK => ?_⟩
      have e68 : a.tmps[68]? = some (.pointer (some ⟨p, 0, none⟩)) := by rw [ha]; exact putSel_on (e := (6, 68, .pointer (some ⟨p, 0, none⟩))) 6 rfl rfl (hon 6 (by kernel_rfl)) rfl
      replace ha := Aside0.mk ha
      have HB := Aside0.mk (Q_HB (hoff 11 (by kernel_rfl)))
      have HR := Aside0.mk (Q_HR (hoff 11 (by kernel_rfl)))
      refine value_ (w1 := w') (v := .pointer (some ⟨p, 7, none⟩)) (by rfl) rfl ?_ ?_
      ·go_simp
       (try simp only [i64_w])
       try rfl
      refine hK.out _ _ ⟨(by rw [ha.out]; exact putSel_upk 7 hb_ rfl rfl rfl), Q_HB, Q_HR, fun h0_ => absurd ((hoff 11 (by kernel_rfl)).symm.trans h0_) (by decide)⟩
     refine steps_cons ?_ ?_
     ·rintro b a w' ⟨ha, Q_HB, Q_HR, Q_HN⟩ hb_ hon hoff
      refine ⟨_, rfl, fun K hK => ?_⟩
      have e69 : a.tmps[69]? = some (.pointer (some ⟨p, 7, none⟩)) := by rw [ha]; exact putSel_on (e := (7, 69, .pointer (some ⟨p, 7, none⟩))) 7 rfl rfl (hon 7 (by kernel_rfl)) rfl
      replace ha := Aside0.mk ha
      have HB := Aside0.mk (Q_HB (hoff 11 (by kernel_rfl)))
      have HR := Aside0.mk (Q_HR (hoff 11 (by kernel_rfl)))
      have hc7_ : w'.cell? ⟨p, 7, none⟩ = some (.int .u64 Lq.next) := (HL.out.below HB.out).cell 7 _ rfl
      refine value_ (w1 := w') (v := .int .u64 Lq.next) (by rfl) rfl ?_ ?_
      ·go_simp
       (try simp only [i64_w])
       try rfl
      refine hK.out _ _ ⟨(by rw [ha.out]; exact putSel_upk 8 hb_ rfl rfl rfl), Q_HB, Q_HR, fun h0_ => absurd ((hoff 11 (by kernel_rfl)).symm.trans h0_) (by decide)⟩
     refine steps_cons ?_ ?_
     ·rintro b a w' ⟨ha, Q_HB, Q_HR, Q_HN⟩ hb_ hon hoff
      refine ⟨_, rfl, fun K hK => ?_⟩
      have e66 : a.tmps[66]? = some (.pointer (some ⟨p, 0, none⟩)) := by rw [ha]; exact putSel_on (e := (4, 66, .pointer (some ⟨p, 0, none⟩))) 4 rfl rfl (hon 4 (by kernel_rfl)) rfl
      have e70 : a.tmps[70]? = some (.int .u64 Lq.next) := by rw [ha]; exact putSel_on (e := (8, 70, .int .u64 Lq.next)) 8 rfl rfl (hon 8 (by kernel_rfl)) rfl
      replace ha := Aside0.mk ha
      have HB := Aside0.mk (Q_HB (hoff 11 (by kernel_rfl)))
      have HR := Aside0.mk (Q_HR (hoff 11 (by kernel_rfl)))
      refine goes_ Try.func57 (by kernel_rfl) rfl #[.pointer (some ⟨p, 0, none⟩), .int .u64 Lq.next] (by rfl) rfl rfl (by first | (simp only [List.map_toArray, List.map_cons, List.map_nil, Act.eval, Array.getD_eq_getD_getElem?, Option.getD_some, e66, e70]; done) | (simp only [List.map_toArray, List.map_cons, List.map_nil, Act.eval, Array.getD_eq_getD_getElem?, Option.getD_some, e66, e70]; rfl)) ?_
      refine (place_l (HL.out.below HB.out) hk.out Lq.next hn0.out.1 hn0.out.2).mono ?_
      rintro e_ wn_ ⟨rfl, k_, rfl⟩
      refine ⟨_, rfl, ?_⟩
      refine hK.out _ _ ⟨(by rw [ha.out]; exact putSel_upk 9 hb_ rfl rfl rfl), fun _ => (below_step HB.out (below_drewN w' k_)), fun _ => (HR.out.below (below_drewN w' k_)), fun h0_ => absurd ((hoff 11 (by kernel_rfl)).symm.trans h0_) (by decide)⟩
     refine steps_cons ?_ ?_
     ·rintro b a w' ⟨ha, Q_HB, Q_HR, Q_HN⟩ hb_ hon hoff
      refine ⟨_, rfl, fun K hK => ?_⟩
      have e10 : a.tmps[10]? = some (.slice A10 sB.length c10) := by rw [ha]; exact (putSel_off rfl).trans rfl
      replace ha := Aside0.mk ha
      have HB := Aside0.mk (Q_HB (hoff 11 (by kernel_rfl)))
      have HR := Aside0.mk (Q_HR (hoff 11 (by kernel_rfl)))
      refine value_ (w1 := w') (v := .slice A10 sB.length c10) (by rfl) rfl ?_ ?_
      ·go_simp
       (try simp only [i64_w])
       try rfl
      refine hK.out _ _ ⟨(by rw [ha.out]; exact putSel_upk 10 hb_ rfl rfl rfl), Q_HB, Q_HR, fun h0_ => absurd ((hoff 11 (by kernel_rfl)).symm.trans h0_) (by decide)⟩
     refine steps_cons ?_ ?_
     ·rintro b a w' ⟨ha, Q_HB, Q_HR, Q_HN⟩ hb_ hon hoff
      refine ⟨_, rfl, fun K hK => ?_⟩
      have e65 : a.tmps[65]? = some (.pointer (some ⟨g, 0, none⟩)) := by rw [ha]; exact putSel_on (e := (3, 65, .pointer (some ⟨g, 0, none⟩))) 3 rfl rfl (hon 3 (by kernel_rfl)) rfl
      have e71 : a.tmps[71]? = some (.int .i64 (Lq.pl Lq.next)) := by rw [ha]; exact putSel_on (e := (9, 71, .int .i64 (Lq.pl Lq.next))) 9 rfl rfl (hon 9 (by kernel_rfl)) rfl
      have e72 : a.tmps[72]? = some (.slice A10 sB.length c10) := by rw [ha]; exact putSel_on (e := (10, 72, .slice A10 sB.length c10)) 10 rfl rfl (hon 10 (by kernel_rfl)) rfl
      replace ha := Aside0.mk ha
      have HB := Aside0.mk (Q_HB hb_)
      have HR := Aside0.mk (Q_HR hb_)
      refine goes_ Try.func20 (by kernel_rfl) rfl #[.pointer (some ⟨g, 0, none⟩), .int .i64 (Lq.pl Lq.next), .slice A10 sB.length c10] (by rfl) rfl rfl (by first | (simp only [List.map_toArray, List.map_cons, List.map_nil, Act.eval, Array.getD_eq_getD_getElem?, Option.getD_some, e65, e71, e72]; done) | (simp only [List.map_toArray, List.map_cons, List.map_nil, Act.eval, Array.getD_eq_getD_getElem?, Option.getD_some, e65, e71, e72]; rfl)) ?_
      refine (st_write (HL.out.below HB.out).D (Lq.pl Lq.next) A10 c10 sB (fun W' hk_ => rb_kept HR.out hk_ HS.out) hc10.out hwt.out).mono ?_
      rintro e_ wn_ ⟨rfl, S'_, hs_, hsub_, hkp_⟩
      refine ⟨_, rfl, ?_⟩
      refine hK.out _ _ ⟨(by rw [ha.out]; exact putSel_upk 11 hb_ rfl rfl rfl), fun h0_ => absurd ((up_self b 11).symm.trans h0_) (by decide), fun h0_ => absurd ((up_self b 11).symm.trans h0_) (by decide), fun _ => ⟨S'_, ⟨hs_, (hkp_.block p (HL.out.below HB.out).lt HL.out.N).trans (HL.out.below HB.out).B, HL.out.P, fun h_ => (hsub_ p h_).elim HL.out.N (fun h2_ => Nat.lt_irrefl _ (Nat.lt_of_lt_of_le (HL.out.below HB.out).lt h2_))⟩, fun k_ h_ => (hsub_ k_ h_).imp id (fun h2_ => Nat.le_trans HB.out.size h2_), (Dk.Kept.of_below HB.out Sq).then_ hkp_ (fun _ h_ => .inl h_)⟩⟩
     refine steps_cons ?_ ?_
     ·rintro b a w' ⟨ha, Q_HB, Q_HR, Q_HN⟩ hb_ hon hoff
      refine ⟨_, rfl, fun K hK => ?_⟩
      have e73 : a.tmps[73]? = some (.int .i64 (Mq.wrE (Lq.pl Lq.next) sB.length)) := by rw [ha]; exact putSel_on (e := (11, 73, .int .i64 (Mq.wrE (Lq.pl Lq.next) sB.length))) 11 rfl rfl (hon 11 (by kernel_rfl)) rfl
      replace ha := Aside0.mk ha
      have HN := Aside0.mk (Q_HN (hon 11 (by kernel_rfl)))
      refine value_ (w1 := w') (v := .int .i64 (Mq.wrE (Lq.pl Lq.next) sB.length)) (by rfl) rfl ?_ ?_
      ·go_simp
       (try simp only [i64_w])
       try rfl
      refine hK.out _ _ ⟨(by rw [ha.out]; exact putSel_upk 12 hb_ rfl rfl rfl), fun h0_ => absurd ((hon 11 (by kernel_rfl)).symm.trans h0_) (by decide), fun h0_ => absurd ((hon 11 (by kernel_rfl)).symm.trans h0_) (by decide), Q_HN⟩
     exact steps_nil
    rintro b a w' hall ⟨ha, Q_HB, Q_HR, Q_HN⟩
    clear HB HR
    have hb0_ := hall 0 (by kernel_rfl)
    have hb1_ := hall 1 (by kernel_rfl)
    have hb2_ := hall 2 (by kernel_rfl)
    have hb3_ := hall 3 (by kernel_rfl)
    have hb4_ := hall 4 (by kernel_rfl)
    have hb5_ := hall 5 (by kernel_rfl)
    have hb6_ := hall 6 (by kernel_rfl)
    have hb7_ := hall 7 (by kernel_rfl)
    have hb8_ := hall 8 (by kernel_rfl)
    have hb9_ := hall 9 (by kernel_rfl)
    have hb10_ := hall 10 (by kernel_rfl)
    have hb11_ := hall 11 (by kernel_rfl)
    have hb12_ := hall 12 (by kernel_rfl)
    subst ha
    simp only [putSel, hb0_, hb1_, hb2_, hb3_, hb4_, hb5_, hb6_, hb7_, hb8_, hb9_, hb10_, hb11_, hb12_, if_true, Act.put, List.setIfInBounds_toArray, List.set_cons_zero, List.set_cons_succ]
    clear Q_HB Q_HR
    have HN := Aside0.mk (Q_HN hb11_)
    clear Q_HN
    clear hall hb0_ hb1_ hb2_ hb3_ hb4_ hb5_ hb6_ hb7_ hb8_ hb9_ hb10_ hb11_ hb12_
    obtain ⟨S', hl1, hsub, hkp⟩ := HN.out
    have HL1 := Aside0.mk hl1
    have HS1 := Aside0.mk hsub
    have HK1 := Aside0.mk ((HA.out.kp.then_ hkp (fun k h => (HA.out.sub k h).imp .inl id)))
    clear hl1 hsub hkp HN
    obtain ⟨E, hE⟩ : ∃ E, E = Mq.wrE (Lq.pl Lq.next) sB.length := ⟨_, rfl⟩
    simp only [← hE]
    have HE := Aside0.mk hE
    have c7 : w'.cell? ⟨p, 7, none⟩ = some (.int .u64 Lq.next) := HL1.out.cell 7 _ rfl
    have f7 : w'.frozen? ⟨p, 7, none⟩ = false := blk_frozen HL1.out.B 7
    have HL2 := Aside0.mk (show Lg w0 (w'.setCell ⟨p, 7, none⟩ (.int .u64 (Lq.next + 1))) p g S' Lq.app1 _ from HL1.out.setw rfl)
    have HK2 := Aside0.mk (HK1.out.setCell (p := ⟨p, 7, none⟩) (.inl (.inr rfl)) (.int .u64 (Lq.next + 1)))
    have hnw2 := hnw.out
    clear hE HL1 HK1
    by_cases hz : E = 0
    ·subst hz
     have hcm := hmc.out
     by_cases hcj : c' = r.length
     ·go_wp2
      go_roundw
      case rel =>
       exact ⟨true, j + 1, A', c' - r.length, r.drop r.length, (by rw [List.length_drop]; simp [hcj]), rfl, ⟨S', Lq.app1, _, by
        rw [HSB.out] at HL2 HE
        exact HA.out.stepT HLL.out rfl HE.out.symm HL2.out HS1.out HK2.out (by rw [List.length_drop]; omega) (fun W' hk => by have h_ := Kd.C_drop (m := r.length) (c := c') (HA.out.C W' hk) hmr.out HA.out.rc; rw [if_pos hcj] at h_; exact h_)⟩⟩
      case measure => simp [lenOf, notB] <;> omega
     ·go_wp2
      go_roundw
      case rel =>
       exact ⟨true, j + 1, A'.map (·.add r.length), c' - r.length, r.drop r.length, (by rw [List.length_drop]; simp), rfl, ⟨S', Lq.app1, _, by
        rw [HSB.out] at HL2 HE
        exact HA.out.stepT HLL.out rfl HE.out.symm HL2.out HS1.out HK2.out (by rw [List.length_drop]; omega) (fun W' hk => by have h_ := Kd.C_drop (m := r.length) (c := c') (HA.out.C W' hk) hmr.out HA.out.rc; rw [if_neg hcj, show r.length * (Kd.int .u8).sz = r.length from Nat.mul_one _] at h_; exact h_)⟩⟩
      case measure => simp [lenOf, notB] <;> omega
    ·have t0 : (E != 0) = true := by simpa using hz
     go_wp2
     go_ret2
     have h0 := HA.out.stop (by rw [← HSB.out, ← HE.out]; exact hz)
     rw [← HSB.out, ← HE.out] at h0
     have h1 := HRL.out
     rw [h0, if_neg hz] at h1
     rw [h0, h1]
     exact ⟨rfl, S', HL2.out, fun k hk => (HS1.out k hk).elim (HA.out.sub k) (fun h2 => .inr (Nat.le_trans HA.out.kp.size h2)), HK2.out⟩
   ·have hlb : decide (r.length ≤ 480) = false := decide_eq_false hl
    have hmin : min (r.length : Int) 480 = (480 : Int) := by omega
    have heq : ((480 : Int) == (r.length : Int)) = false := beq_eq_false_iff_ne.mpr (by omega)
    have htk : r.take 480 = r.take 480 := rfl
    obtain ⟨sB, hsB⟩ : ∃ s, s = secQ Lq r := ⟨_, rfl⟩
    have hsl : sB.length ≤ 512 := by rw [hsB]; exact sec_len hnn.out hll.out (by rw [List.length_take]; omega)
    have hsb : sB = ((([] ++ leb (Lq.next + 1).toNat) ++ leb Lq.life.toNat) ++ leb (0 : Int).toNat) ++ (leb (strOfNums (r.take 480)).size ++ bytesOf (strOfNums (r.take 480))) := by
     rw [hsB, secQ, hlb, htk, size_str, back (hy.out.take 480)]; rfl
    have HSB := Aside0.mk hsB
    have HSb := Aside0.mk hsb
    have HSl := Aside0.mk hsl
    have HLL := Aside0.mk hl
    have hmr := Aside0.mk (show 480 ≤ r.length by omega)
    have hmc := Aside0.mk (show 480 ≤ c' by omega)
    have hml := Aside0.mk (show 480 ≤ 480 by omega)
    have h10 := ten hnn.out
    have h11 := ten hll.out
    have h12 := ten (n := 0) (by decide)
    have hle1 := Aside0.mk (show ((([] : List Int) ++ leb (Lq.next + 1).toNat) ++ leb Lq.life.toNat).length ≤ 1000000 by rw [List.length_append, List.nil_append]; omega)
    have hle2 := Aside0.mk (show (((([] : List Int) ++ leb (Lq.next + 1).toNat) ++ leb Lq.life.toNat) ++ leb (0 : Int).toNat).length ≤ 1000000 by rw [List.length_append, List.length_append, List.nil_append]; omega)
    have hts := Aside0.mk (show (strOfNums (r.take 480)).size ≤ 1000000 by rw [size_str, List.length_take]; omega)
    clear hsB hsb hsl htk h10 h11 h12
    have hif : (if (480 : Int) < (r.length : Int) then (480 : Int) else (r.length : Int)) = 480 := if_pos (by omega)
    go_upto_region 10 with fail
    (try simp only [hif])
    clear hif
    refine start_ (n := 12) (S := fun w' => True) (ds := []) #[false, false, false, false, false, false, false, false, false, false, false, false] (by kernel_rfl) rfl rfl trivial (fun hHeld => ?_)
    refine with_tabW wlap10f.tab10 wlap10f.bits10 (fun HT_ HW_ => ?_)
    have n0_ := Aside0.mk (below_drew HB.out)
    clear HB
    generalize World.drew _ = wd at n0_ hHeld ⊢
    have HB := n0_
    clear hHeld n0_
    refine inv_at [0, 1, 2, 3, 4, 5, 6, 7, 8, 9, 10, 11] (fun a0_ b a w' => ∃ (V5 : Value) (V10 : Value) (m11_ : Value), a = putSel a0_ b [(0, 42, .pointer (some ⟨p, 0, none⟩)), (1, 43, .pointer (some ⟨p, 0, none⟩)), (2, 44, .pointer (some ⟨p, 7, none⟩)), (3, 45, .int .u64 Lq.next), (4, 46, .int .u64 (Lq.next + 1)), (5, 47, V5), (6, 48, .pointer (some ⟨p, 0, none⟩)), (7, 49, .pointer (some ⟨p, 0, none⟩)), (8, 50, .pointer (some ⟨p, 4, none⟩)), (9, 51, .int .u64 Lq.life), (10, 52, V10), (11, 10, m11_)] ∧ (Below wa.heap.size wa w') ∧ (b 5 = true → b 10 = false → Rb wa w' V5 (([] : List Int) ++ leb (Lq.next + 1).toNat)) ∧ (b 10 = true → Rb wa w' V10 ((([] : List Int) ++ leb (Lq.next + 1).toNat) ++ leb Lq.life.toNat)) ∧ (b 11 = true → (m11_ : Value) = V10)) HT_.out HW_.out (by kernel_rfl) (by kernel_rfl) ?_ ?_ ?_
    ·exact ⟨(.slice none 0 0), (.slice none 0 0), .bool false, by simp only [putSel, Bool.false_eq_true, if_false], HB.out, fun h_ => absurd h_ (by decide), fun h_ => absurd h_ (by decide), fun h_ => absurd h_ (by decide)⟩
    ·skip
     clear HB
     refine steps_cons ?_ ?_
     ·rintro b a w' ⟨V5, V10, m11_, ha, Q_HB, Q_F5, Q_F10, Q_X11_⟩ hb_ hon hoff
      refine ⟨_, rfl, fun K hK => ?_⟩
      have e0 : a.tmps[0]? = some (.pointer (some ⟨p, 0, none⟩)) := by rw [ha]; exact (putSel_off rfl).trans rfl
      replace ha := Aside0.mk ha
      have HB := Aside0.mk Q_HB
      refine value_ (w1 := w') (v := .pointer (some ⟨p, 0, none⟩)) (by rfl) rfl ?_ ?_
      ·go_simp
       (try simp only [i64_w])
       try rfl
      refine hK.out _ _ ⟨V5, V10, m11_, (by rw [ha.out]; exact putSel_upk 0 hb_ rfl rfl rfl), Q_HB, fun h0_ _ => absurd ((hoff 5 (by kernel_rfl)).symm.trans h0_) (by decide), fun h0_ => absurd ((hoff 10 (by kernel_rfl)).symm.trans h0_) (by decide), fun h0_ => absurd ((hoff 11 (by kernel_rfl)).symm.trans h0_) (by decide)⟩
     refine steps_cons ?_ ?_
     ·rintro b a w' ⟨V5, V10, m11_, ha, Q_HB, Q_F5, Q_F10, Q_X11_⟩ hb_ hon hoff
      refine ⟨_, rfl, fun K hK => ?_⟩
      have e42 : a.tmps[42]? = some (.pointer (some ⟨p, 0, none⟩)) := by rw [ha]; exact putSel_on (e := (0, 42, .pointer (some ⟨p, 0, none⟩))) 0 rfl rfl (hon 0 (by kernel_rfl)) rfl
      replace ha := Aside0.mk ha
      have HB := Aside0.mk Q_HB
      refine value_ (w1 := w') (v := .pointer (some ⟨p, 0, none⟩)) (by rfl) rfl ?_ ?_
      ·go_simp
       (try simp only [i64_w])
       try rfl
      refine hK.out _ _ ⟨V5, V10, m11_, (by rw [ha.out]; exact putSel_upk 1 hb_ rfl rfl rfl), Q_HB, fun h0_ _ => absurd ((hoff 5 (by kernel_rfl)).symm.trans h0_) (by decide), fun h0_ => absurd ((hoff 10 (by kernel_rfl)).symm.trans h0_) (by decide), fun h0_ => absurd ((hoff 11 (by kernel_rfl)).symm.trans h0_) (by decide)⟩
     refine steps_cons ?_ ?_
     ·rintro b a w' ⟨V5, V10, m11_, ha, Q_HB, Q_F5, Q_F10, Q_X11_⟩ hb_ hon hoff
      refine ⟨_, rfl, fun K hK => ?_⟩
      have e43 : a.tmps[43]? = some (.pointer (some ⟨p, 0, none⟩)) := by rw [ha]; exact putSel_on (e := (1, 43, .pointer (some ⟨p, 0, none⟩))) 1 rfl rfl (hon 1 (by kernel_rfl)) rfl
      replace ha := Aside0.mk ha
      have HB := Aside0.mk Q_HB
      refine value_ (w1 := w') (v := .pointer (some ⟨p, 7, none⟩)) (by rfl) rfl ?_ ?_
      ·go_simp
       (try simp only [i64_w])
       try rfl
      refine hK.out _ _ ⟨V5, V10, m11_, (by rw [ha.out]; exact putSel_upk 2 hb_ rfl rfl rfl), Q_HB, fun h0_ _ => absurd ((hoff 5 (by kernel_rfl)).symm.trans h0_) (by decide), fun h0_ => absurd ((hoff 10 (by kernel_rfl)).symm.trans h0_) (by decide), fun h0_ => absurd ((hoff 11 (by kernel_rfl)).symm.trans h0_) (by decide)⟩
     refine steps_cons ?_ ?_
     ·rintro b a w' ⟨V5, V10, m11_, ha, Q_HB, Q_F5, Q_F10, Q_X11_⟩ hb_ hon hoff
      refine ⟨_, rfl, fun K hK => ?_⟩
      have e44 : a.tmps[44]? = some (.pointer (some ⟨p, 7, none⟩)) := by rw [ha]; exact putSel_on (e := (2, 44, .pointer (some ⟨p, 7, none⟩))) 2 rfl rfl (hon 2 (by kernel_rfl)) rfl
      replace ha := Aside0.mk ha
      have HB := Aside0.mk Q_HB
      have hc7_ : w'.cell? ⟨p, 7, none⟩ = some (.int .u64 Lq.next) := (HL.out.below HB.out).cell 7 _ rfl
      refine value_ (w1 := w') (v := .int .u64 Lq.next) (by rfl) rfl ?_ ?_
      ·go_simp
       (try simp only [i64_w])
       try rfl
      refine hK.out _ _ ⟨V5, V10, m11_, (by rw [ha.out]; exact putSel_upk 3 hb_ rfl rfl rfl), Q_HB, fun h0_ _ => absurd ((hoff 5 (by kernel_rfl)).symm.trans h0_) (by decide), fun h0_ => absurd ((hoff 10 (by kernel_rfl)).symm.trans h0_) (by decide), fun h0_ => absurd ((hoff 11 (by kernel_rfl)).symm.trans h0_) (by decide)⟩
     refine steps_cons ?_ ?_
     ·rintro b a w' ⟨V5, V10, m11_, ha, Q_HB, Q_F5, Q_F10, Q_X11_⟩ hb_ hon hoff
      refine ⟨_, rfl, fun K hK => ?_⟩
      have e45 : a.tmps[45]? = some (.int .u64 Lq.next) := by rw [ha]; exact putSel_on (e := (3, 45, .int .u64 Lq.next)) 3 rfl rfl (hon 3 (by kernel_rfl)) rfl
      replace ha := Aside0.mk ha
      have HB := Aside0.mk Q_HB
      have hw_ := hnw.out
      refine value_ (w1 := w') (v := .int .u64 (Lq.next + 1)) (by rfl) rfl ?_ ?_
      ·go_simp
       (try simp only [i64_w])
       try rfl
      refine hK.out _ _ ⟨V5, V10, m11_, (by rw [ha.out]; exact putSel_upk 4 hb_ rfl rfl rfl), Q_HB, fun h0_ _ => absurd ((hoff 5 (by kernel_rfl)).symm.trans h0_) (by decide), fun h0_ => absurd ((hoff 10 (by kernel_rfl)).symm.trans h0_) (by decide), fun h0_ => absurd ((hoff 11 (by kernel_rfl)).symm.trans h0_) (by decide)⟩
     refine steps_cons ?_ ?_
     ·rintro b a w' ⟨V5, V10, m11_, ha, Q_HB, Q_F5, Q_F10, Q_X11_⟩ hb_ hon hoff
      refine ⟨_, rfl, fun K hK => ?_⟩
      have e46 : a.tmps[46]? = some (.int .u64 (Lq.next + 1)) := by rw [ha]; exact putSel_on (e := (4, 46, .int .u64 (Lq.next + 1))) 4 rfl rfl (hon 4 (by kernel_rfl)) rfl
      replace ha := Aside0.mk ha
      have HB := Aside0.mk Q_HB
      refine goes_ Try.func37 (by kernel_rfl) rfl #[.slice none 0 0, .int .u64 (Lq.next + 1)] (by rfl) rfl rfl (by first | (simp only [List.map_toArray, List.map_cons, List.map_nil, Act.eval, Array.getD_eq_getD_getElem?, Option.getD_some, e46]; done) | (simp only [List.map_toArray, List.map_cons, List.map_nil, Act.eval, Array.getD_eq_getD_getElem?, Option.getD_some, e46]; rfl)) ?_
      refine (put_b HB.out (Rb.nil _ _) (Lq.next + 1) hnn.out.1 hnn.out.2 (by decide)).mono ?_
      rintro e_ wn_ ⟨vn_, rfl, hr_, hbw_⟩
      refine ⟨_, rfl, ?_⟩
      refine hK.out _ _ ⟨vn_, V10, m11_, (by rw [ha.out]; exact putSel_upk 5 hb_ rfl rfl rfl), hbw_, fun _ _ => hr_, fun h0_ => absurd ((hoff 10 (by kernel_rfl)).symm.trans h0_) (by decide), fun h0_ => absurd ((hoff 11 (by kernel_rfl)).symm.trans h0_) (by decide)⟩
     refine steps_cons ?_ ?_
     ·rintro b a w' ⟨V5, V10, m11_, ha, Q_HB, Q_F5, Q_F10, Q_X11_⟩ hb_ hon hoff
      refine ⟨_, rfl, fun K hK => ?_⟩
      have e0 : a.tmps[0]? = some (.pointer (some ⟨p, 0, none⟩)) := by rw [ha]; exact (putSel_off rfl).trans rfl
      replace ha := Aside0.mk ha
      have HB := Aside0.mk Q_HB
      refine value_ (w1 := w') (v := .pointer (some ⟨p, 0, none⟩)) (by rfl) rfl ?_ ?_
      ·go_simp
       (try simp only [i64_w])
       try rfl
      refine hK.out _ _ ⟨V5, V10, m11_, (by rw [ha.out]; exact putSel_upk 6 hb_ rfl rfl rfl), Q_HB, Q_F5, fun h0_ => absurd ((hoff 10 (by kernel_rfl)).symm.trans h0_) (by decide), fun h0_ => absurd ((hoff 11 (by kernel_rfl)).symm.trans h0_) (by decide)⟩
     refine steps_cons ?_ ?_
     ·rintro b a w' ⟨V5, V10, m11_, ha, Q_HB, Q_F5, Q_F10, Q_X11_⟩ hb_ hon hoff
      refine ⟨_, rfl, fun K hK => ?_⟩
      have e48 : a.tmps[48]? = some (.pointer (some ⟨p, 0, none⟩)) := by rw [ha]; exact putSel_on (e := (6, 48, .pointer (some ⟨p, 0, none⟩))) 6 rfl rfl (hon 6 (by kernel_rfl)) rfl
      replace ha := Aside0.mk ha
      have HB := Aside0.mk Q_HB
      refine value_ (w1 := w') (v := .pointer (some ⟨p, 0, none⟩)) (by rfl) rfl ?_ ?_
      ·go_simp
       (try simp only [i64_w])
       try rfl
      refine hK.out _ _ ⟨V5, V10, m11_, (by rw [ha.out]; exact putSel_upk 7 hb_ rfl rfl rfl), Q_HB, Q_F5, fun h0_ => absurd ((hoff 10 (by kernel_rfl)).symm.trans h0_) (by decide), fun h0_ => absurd ((hoff 11 (by kernel_rfl)).symm.trans h0_) (by decide)⟩
     refine steps_cons ?_ ?_
     ·rintro b a w' ⟨V5, V10, m11_, ha, Q_HB, Q_F5, Q_F10, Q_X11_⟩ hb_ hon hoff
      refine ⟨_, rfl, fun K hK => ?_⟩
      have e49 : a.tmps[49]? = some (.pointer (some ⟨p, 0, none⟩)) := by rw [ha]; exact putSel_on (e := (7, 49, .pointer (some ⟨p, 0, none⟩))) 7 rfl rfl (hon 7 (by kernel_rfl)) rfl
      replace ha := Aside0.mk ha
      have HB := Aside0.mk Q_HB
      refine value_ (w1 := w') (v := .pointer (some ⟨p, 4, none⟩)) (by rfl) rfl ?_ ?_
      ·go_simp
       (try simp only [i64_w])
       try rfl
      refine hK.out _ _ ⟨V5, V10, m11_, (by rw [ha.out]; exact putSel_upk 8 hb_ rfl rfl rfl), Q_HB, Q_F5, fun h0_ => absurd ((hoff 10 (by kernel_rfl)).symm.trans h0_) (by decide), fun h0_ => absurd ((hoff 11 (by kernel_rfl)).symm.trans h0_) (by decide)⟩
     refine steps_cons ?_ ?_
     ·rintro b a w' ⟨V5, V10, m11_, ha, Q_HB, Q_F5, Q_F10, Q_X11_⟩ hb_ hon hoff
      refine ⟨_, rfl, fun K hK => ?_⟩
      have e50 : a.tmps[50]? = some (.pointer (some ⟨p, 4, none⟩)) := by rw [ha]; exact putSel_on (e := (8, 50, .pointer (some ⟨p, 4, none⟩))) 8 rfl rfl (hon 8 (by kernel_rfl)) rfl
      replace ha := Aside0.mk ha
      have HB := Aside0.mk Q_HB
      have hc4_ : w'.cell? ⟨p, 4, none⟩ = some (.int .u64 Lq.life) := (HL.out.below HB.out).cell 4 _ rfl
      refine value_ (w1 := w') (v := .int .u64 Lq.life) (by rfl) rfl ?_ ?_
      ·go_simp
       (try simp only [i64_w])
       try rfl
      refine hK.out _ _ ⟨V5, V10, m11_, (by rw [ha.out]; exact putSel_upk 9 hb_ rfl rfl rfl), Q_HB, Q_F5, fun h0_ => absurd ((hoff 10 (by kernel_rfl)).symm.trans h0_) (by decide), fun h0_ => absurd ((hoff 11 (by kernel_rfl)).symm.trans h0_) (by decide)⟩
     refine steps_cons ?_ ?_
     ·rintro b a w' ⟨V5, V10, m11_, ha, Q_HB, Q_F5, Q_F10, Q_X11_⟩ hb_ hon hoff
      refine ⟨_, rfl, fun K hK => ?_⟩
      have e47 : a.tmps[47]? = some (V5) := by rw [ha]; exact putSel_on (e := (5, 47, V5)) 5 rfl rfl (hon 5 (by kernel_rfl)) rfl
      have e51 : a.tmps[51]? = some (.int .u64 Lq.life) := by rw [ha]; exact putSel_on (e := (9, 51, .int .u64 Lq.life)) 9 rfl rfl (hon 9 (by kernel_rfl)) rfl
      replace ha := Aside0.mk ha
      have HB := Aside0.mk Q_HB
      have F5 := Aside0.mk (Q_F5 (hon 5 (by kernel_rfl)) hb_)
      refine goes_ Try.func37 (by kernel_rfl) rfl #[V5, .int .u64 Lq.life] (by rfl) rfl rfl (by first | (simp only [List.map_toArray, List.map_cons, List.map_nil, Act.eval, Array.getD_eq_getD_getElem?, Option.getD_some, e47, e51]; done) | (simp only [List.map_toArray, List.map_cons, List.map_nil, Act.eval, Array.getD_eq_getD_getElem?, Option.getD_some, e47, e51]; rfl)) ?_
      refine (put_b HB.out F5.out Lq.life hll.out.1 hll.out.2 (by rw [List.nil_append]; have := ten hnn.out; omega)).mono ?_
      rintro e_ wn_ ⟨vn_, rfl, hr_, hbw_⟩
      refine ⟨_, rfl, ?_⟩
      refine hK.out _ _ ⟨V5, vn_, m11_, (by rw [ha.out]; exact putSel_upk 10 hb_ rfl rfl rfl), hbw_, fun _ h1_ => absurd ((up_self b 10).symm.trans h1_) (by decide), fun _ => hr_, fun h0_ => absurd ((hoff 11 (by kernel_rfl)).symm.trans h0_) (by decide)⟩
     refine steps_cons ?_ ?_
     ·rintro b a w' ⟨V5, V10, m11_, ha, Q_HB, Q_F5, Q_F10, Q_X11_⟩ hb_ hon hoff
      refine ⟨_, rfl, fun K hK => ?_⟩
      have e52 : a.tmps[52]? = some (V10) := by rw [ha]; exact putSel_on (e := (10, 52, V10)) 10 rfl rfl (hon 10 (by kernel_rfl)) rfl
      replace ha := Aside0.mk ha
      have HB := Aside0.mk Q_HB
      have F10 := Aside0.mk (Q_F10 (hon 10 (by kernel_rfl)))
      refine value_ (w1 := w') (v := V10) (by rfl) rfl ?_ ?_
      ·go_simp
       (try simp only [i64_w])
       try rfl
      refine hK.out _ _ ⟨V5, V10, (V10), (by rw [ha.out]; exact putSel_upk 11 hb_ rfl rfl rfl), Q_HB, fun _ h1_ => absurd ((hon 10 (by kernel_rfl)).symm.trans h1_) (by decide), Q_F10, fun _ => rfl⟩
     exact steps_nil
    rintro b a w' hall ⟨V5, V10, m11_, ha, Q_HB, Q_F5, Q_F10, Q_X11_⟩
    clear HB
    have hb0_ := hall 0 (by kernel_rfl)
    have hb1_ := hall 1 (by kernel_rfl)
    have hb2_ := hall 2 (by kernel_rfl)
    have hb3_ := hall 3 (by kernel_rfl)
    have hb4_ := hall 4 (by kernel_rfl)
    have hb5_ := hall 5 (by kernel_rfl)
    have hb6_ := hall 6 (by kernel_rfl)
    have hb7_ := hall 7 (by kernel_rfl)
    have hb8_ := hall 8 (by kernel_rfl)
    have hb9_ := hall 9 (by kernel_rfl)
    have hb10_ := hall 10 (by kernel_rfl)
    have hb11_ := hall 11 (by kernel_rfl)
    subst ha
    obtain rfl := Q_X11_ hb11_
    simp only [putSel, hb0_, hb1_, hb2_, hb3_, hb4_, hb5_, hb6_, hb7_, hb8_, hb9_, hb10_, hb11_, if_true, Act.put, List.setIfInBounds_toArray, List.set_cons_zero, List.set_cons_succ]
    have HB := Aside0.mk Q_HB
    clear Q_HB Q_F5
    have F10 := Aside0.mk (Q_F10 hb10_)
    clear Q_F10
    clear hall hb0_ hb1_ hb2_ hb3_ hb4_ hb5_ hb6_ hb7_ hb8_ hb9_ hb10_ hb11_
    go_upto_region 14 with fail
    have F0 := F10
    clear F10
    refine start_ (n := 9) (S := fun w' => True) (ds := []) #[false, false, false, false, false, false, false, false, false] (by kernel_rfl) rfl rfl trivial (fun hHeld => ?_)
    refine with_tabW wlap14f.tab14 wlap14f.bits14 (fun HT_ HW_ => ?_)
    have n0_ := Aside0.mk (below_drew HB.out)
    have n1_ := Aside0.mk (Kd.R_drew F0.out)
    clear HB F0
    generalize World.drew _ = wd at n0_ n1_ hHeld ⊢
    have HB := n0_
    have F0 := n1_
    clear hHeld n0_ n1_
    refine inv_at [0, 1, 2, 3, 4, 5, 6, 7, 8] (fun a0_ b a w' => ∃ (V2 : Value) (V7 : Value) (m8_ : Value), a = putSel a0_ b [(0, 54, m11_), (1, 55, .int .u64 0), (2, 56, V2), (3, 57, .slice A' r.length c'), (4, 58, .int .i64 480), (5, 59, .slice A' 480 c'), (6, 60, .string (strOfNums (r.take 480))), (7, 61, V7), (8, 10, m8_)] ∧ (Below wa.heap.size wa w') ∧ (b 2 = false → Rb wa w' m11_ ((([] : List Int) ++ leb (Lq.next + 1).toNat) ++ leb Lq.life.toNat)) ∧ (b 2 = true → b 7 = false → Rb wa w' V2 (((([] : List Int) ++ leb (Lq.next + 1).toNat) ++ leb Lq.life.toNat) ++ leb (0 : Int).toNat)) ∧ (b 7 = true → Rb wa w' V7 ((((([] : List Int) ++ leb (Lq.next + 1).toNat) ++ leb Lq.life.toNat) ++ leb (0 : Int).toNat) ++ (leb (strOfNums (r.take 480)).size ++ bytesOf (strOfNums (r.take 480))))) ∧ (b 8 = true → (m8_ : Value) = V7)) HT_.out HW_.out (by kernel_rfl) (by kernel_rfl) ?_ ?_ ?_
    ·exact ⟨(.slice none 0 0), (.slice none 0 0), .bool false, by simp only [putSel, Bool.false_eq_true, if_false], HB.out, fun _ => F0.out, fun h_ => absurd h_ (by decide), fun h_ => absurd h_ (by decide), fun h_ => absurd h_ (by decide)⟩
    ·skip
     clear F0 HB
     refine steps_cons ?_ ?_
     ·rintro b a w' ⟨V2, V7, m8_, ha, Q_HB, Q_F0, Q_F2, Q_F7, Q_X8_⟩ hb_ hon hoff
      refine ⟨_, rfl, fun K hK => ?_⟩
      have e10 : a.tmps[10]? = some (m11_) := by rw [ha]; exact (putSel_not (hoff 8 (by kernel_rfl)) rfl).trans rfl
      replace ha := Aside0.mk ha
      have HB := Aside0.mk Q_HB
      have F0 := Aside0.mk (Q_F0 (hoff 2 (by kernel_rfl)))
      refine value_ (w1 := w') (v := m11_) (by rfl) rfl ?_ ?_
      ·go_simp
       (try simp only [i64_w])
       try rfl
      refine hK.out _ _ ⟨V2, V7, m8_, (by rw [ha.out]; exact putSel_upk 0 hb_ rfl rfl rfl), Q_HB, Q_F0, fun h0_ _ => absurd ((hoff 2 (by kernel_rfl)).symm.trans h0_) (by decide), fun h0_ => absurd ((hoff 7 (by kernel_rfl)).symm.trans h0_) (by decide), fun h0_ => absurd ((hoff 8 (by kernel_rfl)).symm.trans h0_) (by decide)⟩
     refine steps_cons ?_ ?_
     ·rintro b a w' ⟨V2, V7, m8_, ha, Q_HB, Q_F0, Q_F2, Q_F7, Q_X8_⟩ hb_ hon hoff
      refine ⟨_, rfl, fun K hK => ?_⟩
      have e11 : a.tmps[11]? = some (.int .u64 0) := by rw [ha]; exact (putSel_off rfl).trans rfl
      replace ha := Aside0.mk ha
      have HB := Aside0.mk Q_HB
      have F0 := Aside0.mk (Q_F0 (hoff 2 (by kernel_rfl)))
      refine value_ (w1 := w') (v := .int .u64 0) (by rfl) rfl ?_ ?_
      ·go_simp
       (try simp only [i64_w])
       try rfl
      refine hK.out _ _ ⟨V2, V7, m8_, (by rw [ha.out]; exact putSel_upk 1 hb_ rfl rfl rfl), Q_HB, Q_F0, fun h0_ _ => absurd ((hoff 2 (by kernel_rfl)).symm.trans h0_) (by decide), fun h0_ => absurd ((hoff 7 (by kernel_rfl)).symm.trans h0_) (by decide), fun h0_ => absurd ((hoff 8 (by kernel_rfl)).symm.trans h0_) (by decide)⟩
     refine steps_cons ?_ ?_
     ·rintro b a w' ⟨V2, V7, m8_, ha, Q_HB, Q_F0, Q_F2, Q_F7, Q_X8_⟩ hb_ hon hoff
      refine ⟨_, rfl, fun K hK => ?_⟩
      have e54 : a.tmps[54]? = some (m11_) := by rw [ha]; exact putSel_on (e := (0, 54, m11_)) 0 rfl rfl (hon 0 (by kernel_rfl)) rfl
      have e55 : a.tmps[55]? = some (.int .u64 0) := by rw [ha]; exact putSel_on (e := (1, 55, .int .u64 0)) 1 rfl rfl (hon 1 (by kernel_rfl)) rfl
      replace ha := Aside0.mk ha
      have HB := Aside0.mk Q_HB
      have F0 := Aside0.mk (Q_F0 hb_)
      refine goes_ Try.func37 (by kernel_rfl) rfl #[m11_, .int .u64 0] (by rfl) rfl rfl (by first | (simp only [List.map_toArray, List.map_cons, List.map_nil, Act.eval, Array.getD_eq_getD_getElem?, Option.getD_some, e54, e55]; done) | (simp only [List.map_toArray, List.map_cons, List.map_nil, Act.eval, Array.getD_eq_getD_getElem?, Option.getD_some, e54, e55]; rfl)) ?_
      refine (put_b HB.out F0.out 0 (by decide) (by decide) hle1.out).mono ?_
      rintro e_ wn_ ⟨vn_, rfl, hr_, hbw_⟩
      refine ⟨_, rfl, ?_⟩
      refine hK.out _ _ ⟨vn_, V7, m8_, (by rw [ha.out]; exact putSel_upk 2 hb_ rfl rfl rfl), hbw_, fun h0_ => absurd ((up_self b 2).symm.trans h0_) (by decide), fun _ _ => hr_, fun h0_ => absurd ((hoff 7 (by kernel_rfl)).symm.trans h0_) (by decide), fun h0_ => absurd ((hoff 8 (by kernel_rfl)).symm.trans h0_) (by decide)⟩
     refine steps_cons ?_ ?_
     ·rintro b a w' ⟨V2, V7, m8_, ha, Q_HB, Q_F0, Q_F2, Q_F7, Q_X8_⟩ hb_ hon hoff
      refine ⟨_, rfl, fun K hK => ?_⟩
      have e7 : a.tmps[7]? = some (.slice A' r.length c') := by rw [ha]; exact (putSel_off rfl).trans rfl
      replace ha := Aside0.mk ha
      have HB := Aside0.mk Q_HB
      refine value_ (w1 := w') (v := .slice A' r.length c') (by rfl) rfl ?_ ?_
      ·go_simp
       (try simp only [i64_w])
       try rfl
      refine hK.out _ _ ⟨V2, V7, m8_, (by rw [ha.out]; exact putSel_upk 3 hb_ rfl rfl rfl), Q_HB, Q_F0, Q_F2, fun h0_ => absurd ((hoff 7 (by kernel_rfl)).symm.trans h0_) (by decide), fun h0_ => absurd ((hoff 8 (by kernel_rfl)).symm.trans h0_) (by decide)⟩
     refine steps_cons ?_ ?_
     ·rintro b a w' ⟨V2, V7, m8_, ha, Q_HB, Q_F0, Q_F2, Q_F7, Q_X8_⟩ hb_ hon hoff
      refine ⟨_, rfl, fun K hK => ?_⟩
      have e9 : a.tmps[9]? = some (.int .i64 480) := by rw [ha]; exact (putSel_off rfl).trans rfl
      replace ha := Aside0.mk ha
      have HB := Aside0.mk Q_HB
      refine value_ (w1 := w') (v := .int .i64 480) (by rfl) rfl ?_ ?_
      ·go_simp
       (try simp only [i64_w])
       try rfl
      refine hK.out _ _ ⟨V2, V7, m8_, (by rw [ha.out]; exact putSel_upk 4 hb_ rfl rfl rfl), Q_HB, Q_F0, Q_F2, fun h0_ => absurd ((hoff 7 (by kernel_rfl)).symm.trans h0_) (by decide), fun h0_ => absurd ((hoff 8 (by kernel_rfl)).symm.trans h0_) (by decide)⟩
     refine steps_cons ?_ ?_
     ·rintro b a w' ⟨V2, V7, m8_, ha, Q_HB, Q_F0, Q_F2, Q_F7, Q_X8_⟩ hb_ hon hoff
      refine ⟨_, rfl, fun K hK => ?_⟩
      have e57 : a.tmps[57]? = some (.slice A' r.length c') := by rw [ha]; exact putSel_on (e := (3, 57, .slice A' r.length c')) 3 rfl rfl (hon 3 (by kernel_rfl)) rfl
      have e58 : a.tmps[58]? = some (.int .i64 480) := by rw [ha]; exact putSel_on (e := (4, 58, .int .i64 480)) 4 rfl rfl (hon 4 (by kernel_rfl)) rfl
      replace ha := Aside0.mk ha
      have HB := Aside0.mk Q_HB
      have hmc_ := hmc.out
      have hnl_ : ((c' : Int) < 480) = False := eq_false (by omega)
      have hni_ : ((480 : Int) ≤ (c' : Int)) = True := eq_true (by omega)
      refine value_ (w1 := w') (v := .slice A' 480 c') (by rfl) rfl ?_ ?_
      ·go_simp
       (try simp only [i64_w])
       try rfl
      refine hK.out _ _ ⟨V2, V7, m8_, (by rw [ha.out]; exact putSel_upk 5 hb_ rfl rfl rfl), Q_HB, Q_F0, Q_F2, fun h0_ => absurd ((hoff 7 (by kernel_rfl)).symm.trans h0_) (by decide), fun h0_ => absurd ((hoff 8 (by kernel_rfl)).symm.trans h0_) (by decide)⟩
     refine steps_cons ?_ ?_
     ·rintro b a w' ⟨V2, V7, m8_, ha, Q_HB, Q_F0, Q_F2, Q_F7, Q_X8_⟩ hb_ hon hoff
      refine ⟨_, rfl, fun K hK => ?_⟩
      have e59 : a.tmps[59]? = some (.slice A' 480 c') := by rw [ha]; exact putSel_on (e := (5, 59, .slice A' 480 c')) 5 rfl rfl (hon 5 (by kernel_rfl)) rfl
      replace ha := Aside0.mk ha
      have HB := Aside0.mk Q_HB
      have hcv_ := cv_take HC.out HB.out c' hmr.out
      refine value_ (w1 := w') (v := .string (strOfNums (r.take 480))) (by rfl) rfl ?_ ?_
      ·go_simp
       (try simp only [i64_w])
       try rfl
      refine hK.out _ _ ⟨V2, V7, m8_, (by rw [ha.out]; exact putSel_upk 6 hb_ rfl rfl rfl), Q_HB, Q_F0, Q_F2, fun h0_ => absurd ((hoff 7 (by kernel_rfl)).symm.trans h0_) (by decide), fun h0_ => absurd ((hoff 8 (by kernel_rfl)).symm.trans h0_) (by decide)⟩
     refine steps_cons ?_ ?_
     ·rintro b a w' ⟨V2, V7, m8_, ha, Q_HB, Q_F0, Q_F2, Q_F7, Q_X8_⟩ hb_ hon hoff
      refine ⟨_, rfl, fun K hK => ?_⟩
      have e56 : a.tmps[56]? = some (V2) := by rw [ha]; exact putSel_on (e := (2, 56, V2)) 2 rfl rfl (hon 2 (by kernel_rfl)) rfl
      have e60 : a.tmps[60]? = some (.string (strOfNums (r.take 480))) := by rw [ha]; exact putSel_on (e := (6, 60, .string (strOfNums (r.take 480)))) 6 rfl rfl (hon 6 (by kernel_rfl)) rfl
      replace ha := Aside0.mk ha
      have HB := Aside0.mk Q_HB
      have F2 := Aside0.mk (Q_F2 (hon 2 (by kernel_rfl)) hb_)
      refine goes_ Try.func38 (by kernel_rfl) rfl #[V2, .string (strOfNums (r.take 480))] (by rfl) rfl rfl (by first | (simp only [List.map_toArray, List.map_cons, List.map_nil, Act.eval, Array.getD_eq_getD_getElem?, Option.getD_some, e56, e60]; done) | (simp only [List.map_toArray, List.map_cons, List.map_nil, Act.eval, Array.getD_eq_getD_getElem?, Option.getD_some, e56, e60]; rfl)) ?_
      refine (text_b HB.out F2.out (strOfNums (r.take 480)) hts.out hle2.out).mono ?_
      rintro e_ wn_ ⟨vn_, rfl, hr_, hbw_⟩
      refine ⟨_, rfl, ?_⟩
      refine hK.out _ _ ⟨V2, vn_, m8_, (by rw [ha.out]; exact putSel_upk 7 hb_ rfl rfl rfl), hbw_, fun h0_ => absurd ((hon 2 (by kernel_rfl)).symm.trans h0_) (by decide), fun _ h1_ => absurd ((up_self b 7).symm.trans h1_) (by decide), fun _ => hr_, fun h0_ => absurd ((hoff 8 (by kernel_rfl)).symm.trans h0_) (by decide)⟩
     refine steps_cons ?_ ?_
     ·rintro b a w' ⟨V2, V7, m8_, ha, Q_HB, Q_F0, Q_F2, Q_F7, Q_X8_⟩ hb_ hon hoff
      refine ⟨_, rfl, fun K hK => ?_⟩
      have e61 : a.tmps[61]? = some (V7) := by rw [ha]; exact putSel_on (e := (7, 61, V7)) 7 rfl rfl (hon 7 (by kernel_rfl)) rfl
      replace ha := Aside0.mk ha
      have HB := Aside0.mk Q_HB
      have F7 := Aside0.mk (Q_F7 (hon 7 (by kernel_rfl)))
      refine value_ (w1 := w') (v := V7) (by rfl) rfl ?_ ?_
      ·go_simp
       (try simp only [i64_w])
       try rfl
      refine hK.out _ _ ⟨V2, V7, (V7), (by rw [ha.out]; exact putSel_upk 8 hb_ rfl rfl rfl), Q_HB, fun h0_ => absurd ((hon 2 (by kernel_rfl)).symm.trans h0_) (by decide), fun _ h1_ => absurd ((hon 7 (by kernel_rfl)).symm.trans h1_) (by decide), Q_F7, fun _ => rfl⟩
     exact steps_nil
    rintro b a w' hall ⟨V2, V7, m8_, ha, Q_HB, Q_F0, Q_F2, Q_F7, Q_X8_⟩
    clear F0 HB
    have hb0_ := hall 0 (by kernel_rfl)
    have hb1_ := hall 1 (by kernel_rfl)
    have hb2_ := hall 2 (by kernel_rfl)
    have hb3_ := hall 3 (by kernel_rfl)
    have hb4_ := hall 4 (by kernel_rfl)
    have hb5_ := hall 5 (by kernel_rfl)
    have hb6_ := hall 6 (by kernel_rfl)
    have hb7_ := hall 7 (by kernel_rfl)
    have hb8_ := hall 8 (by kernel_rfl)
    subst ha
    obtain rfl := Q_X8_ hb8_
    simp only [putSel, hb0_, hb1_, hb2_, hb3_, hb4_, hb5_, hb6_, hb7_, hb8_, if_true, Act.put, List.setIfInBounds_toArray, List.set_cons_zero, List.set_cons_succ]
    have HB := Aside0.mk Q_HB
    clear Q_HB Q_F0 Q_F2
    have F7 := Aside0.mk (Q_F7 hb7_)
    clear Q_F7
    clear hall hb0_ hb1_ hb2_ hb3_ hb4_ hb5_ hb6_ hb7_ hb8_
    obtain ⟨A10, c10, hv, hcc, _⟩ := F7.out.open_
    have hF := F7.out
    rw [← HSb.out] at hv hF hcc
    subst hv
    have HR2 := Aside0.mk hF
    have hc10 := Aside0.mk hcc
    clear F7 hF hcc
    go_upto_region 15 with fail
    have HR := HR2
    clear HR2
    refine start_ (n := 13) (S := fun w' => True) (ds := []) #[false, false, false, false, false, false, false, false, false, false, false, false, false] (by kernel_rfl) rfl rfl trivial (fun hHeld => ?_)
    refine with_tabW wlap15f.tab15 wlap15f.bits15 (fun HT_ HW_ => ?_)
    have n0_ := Aside0.mk (below_drew HB.out)
    have n1_ := Aside0.mk (Kd.R_drew HR.out)
    clear HB HR
    generalize World.drew _ = wd at n0_ n1_ hHeld ⊢
    have HB := n0_
    have HR := n1_
    clear hHeld n0_ n1_
    refine inv_at [0, 1, 2, 3, 4, 5, 6, 7, 8, 9, 10, 11, 12] (fun a0_ b a w' => a = putSel a0_ b [(0, 62, .pointer (some ⟨p, 0, none⟩)), (1, 63, .pointer (some ⟨p, 0, none⟩)), (2, 64, .pointer (some ⟨p, 0, none⟩)), (3, 65, .pointer (some ⟨g, 0, none⟩)), (4, 66, .pointer (some ⟨p, 0, none⟩)), (5, 67, .pointer (some ⟨p, 0, none⟩)), (6, 68, .pointer (some ⟨p, 0, none⟩)), (7, 69, .pointer (some ⟨p, 7, none⟩)), (8, 70, .int .u64 Lq.next), (9, 71, .int .i64 (Lq.pl Lq.next)), (10, 72, .slice A10 sB.length c10), (11, 73, .int .i64 (Mq.wrE (Lq.pl Lq.next) sB.length)), (12, 12, .int .i64 (Mq.wrE (Lq.pl Lq.next) sB.length))] ∧ (b 11 = false → Below wa.heap.size wa w') ∧ (b 11 = false → Rb wa w' (.slice A10 sB.length c10) sB) ∧ (b 11 = true → ∃ S', Lg w0 w' p g S' Lq (Mq.wr (Lq.pl Lq.next) sB) ∧ (∀ k, S' k → Sq k ∨ wa.heap.size ≤ k) ∧ Kept wa w' Sq)) HT_.out HW_.out (by kernel_rfl) (by kernel_rfl) ?_ ?_ ?_
    ·exact ⟨by simp only [putSel, Bool.false_eq_true, if_false], fun _ => HB.out, fun _ => HR.out, fun h_ => absurd h_ (by decide)⟩
    ·skip
     clear HB HR
     refine steps_cons ?_ ?_
     ·rintro b a w' ⟨ha, Q_HB, Q_HR, Q_HN⟩ hb_ hon hoff
      refine ⟨_, rfl, fun K hK => ?_⟩
      have e0 : a.tmps[0]? = some (.pointer (some ⟨p, 0, none⟩)) := by rw [ha]; exact (putSel_off rfl).trans rfl
      replace ha := Aside0.mk ha
      have HB := Aside0.mk (Q_HB (hoff 11 (by kernel_rfl)))
      have HR := Aside0.mk (Q_HR (hoff 11 (by kernel_rfl)))
      refine value_ (w1 := w') (v := .pointer (some ⟨p, 0, none⟩)) (by rfl) rfl ?_ ?_
      ·go_simp
       (try simp only [i64_w])
       try rfl
      refine hK.out _ _ ⟨(by rw [ha.out]; exact putSel_upk 0 hb_ rfl rfl rfl), Q_HB, Q_HR, fun h0_ => absurd ((hoff 11 (by kernel_rfl)).symm.trans h0_) (by decide)⟩
     refine steps_cons ?_ ?_
     ·rintro b a w' ⟨ha, Q_HB, Q_HR, Q_HN⟩ hb_ hon hoff
      refine ⟨_, rfl, fun K hK => ?_⟩
      have e62 : a.tmps[62]? = some (.pointer (some ⟨p, 0, none⟩)) := by rw [ha]; exact putSel_on (e := (0, 62, .pointer (some ⟨p, 0, none⟩))) 0 rfl rfl (hon 0 (by kernel_rfl)) rfl
      replace ha := Aside0.mk ha
      have HB := Aside0.mk (Q_HB (hoff 11 (by kernel_rfl)))
      have HR := Aside0.mk (Q_HR (hoff 11 (by kernel_rfl)))
      refine value_ (w1 := w') (v := .pointer (some ⟨p, 0, none⟩)) (by rfl) rfl ?_ ?_
      ·go_simp
       (try simp only [i64_w])
       try rfl
      refine hK.out _ _ ⟨(by rw [ha.out]; exact putSel_upk 1 hb_ rfl rfl rfl), Q_HB, Q_HR, fun h0_ => absurd ((hoff 11 (by kernel_rfl)).symm.trans h0_) (by decide)⟩
     refine steps_cons ?_ ?_
     ·rintro b a w' ⟨ha, Q_HB, Q_HR, Q_HN⟩ hb_ hon hoff
      refine ⟨_, rfl, fun K hK => ?_⟩
      have e63 : a.tmps[63]? = some (.pointer (some ⟨p, 0, none⟩)) := by rw [ha]; exact putSel_on (e := (1, 63, .pointer (some ⟨p, 0, none⟩))) 1 rfl rfl (hon 1 (by kernel_rfl)) rfl
      replace ha := Aside0.mk ha
      have HB := Aside0.mk (Q_HB (hoff 11 (by kernel_rfl)))
      have HR := Aside0.mk (Q_HR (hoff 11 (by kernel_rfl)))
      refine value_ (w1 := w') (v := .pointer (some ⟨p, 0, none⟩)) (by rfl) rfl ?_ ?_
      ·go_simp
       (try simp only [i64_w])
       try rfl
      refine hK.out _ _ ⟨(by rw [ha.out]; exact putSel_upk 2 hb_ rfl rfl rfl), Q_HB, Q_HR, fun h0_ => absurd ((hoff 11 (by kernel_rfl)).symm.trans h0_) (by decide)⟩
     refine steps_cons ?_ ?_
     ·rintro b a w' ⟨ha, Q_HB, Q_HR, Q_HN⟩ hb_ hon hoff
      refine ⟨_, rfl, fun K hK => ?_⟩
      have e64 : a.tmps[64]? = some (.pointer (some ⟨p, 0, none⟩)) := by rw [ha]; exact putSel_on (e := (2, 64, .pointer (some ⟨p, 0, none⟩))) 2 rfl rfl (hon 2 (by kernel_rfl)) rfl
      replace ha := Aside0.mk ha
      have HB := Aside0.mk (Q_HB (hoff 11 (by kernel_rfl)))
      have HR := Aside0.mk (Q_HR (hoff 11 (by kernel_rfl)))
      have hc0_ : w'.cell? ⟨p, 0, none⟩ = some (.pointer (some ⟨g, 0, none⟩)) := (HL.out.below HB.out).cell 0 _ rfl
      refine value_ (w1 := w') (v := .pointer (some ⟨g, 0, none⟩)) (by rfl) rfl ?_ ?_
      ·go_simp
       (try simp only [i64_w])
       try rfl
      refine hK.out _ _ ⟨(by rw [ha.out]; exact putSel_upk 3 hb_ rfl rfl rfl), Q_HB, Q_HR, fun h0_ => absurd ((hoff 11 (by kernel_rfl)).symm.trans h0_) (by decide)⟩
     refine steps_cons ?_ ?_
     ·rintro b a w' ⟨ha, Q_HB, Q_HR, Q_HN⟩ hb_ hon hoff
      refine ⟨_, rfl, fun K hK => ?_⟩
      have e0 : a.tmps[0]? = some (.pointer (some ⟨p, 0, none⟩)) := by rw [ha]; exact (putSel_off rfl).trans rfl
      replace ha := Aside0.mk ha
      have HB := Aside0.mk (Q_HB (hoff 11 (by kernel_rfl)))
      have HR := Aside0.mk (Q_HR (hoff 11 (by kernel_rfl)))
      refine value_ (w1 := w') (v := .pointer (some ⟨p, 0, none⟩)) (by rfl) rfl ?_ ?_
      ·go_simp
       (try simp only [i64_w])
       try rfl
      refine hK.out _ _ ⟨(by rw [ha.out]; exact putSel_upk 4 hb_ rfl rfl rfl), Q_HB, Q_HR, fun h0_ => absurd ((hoff 11 (by kernel_rfl)).symm.trans h0_) (by decide)⟩
     refine steps_cons ?_ ?_
     ·rintro b a w' ⟨ha, Q_HB, Q_HR, Q_HN⟩ hb_ hon hoff
      refine ⟨_, rfl, fun K hK => ?_⟩
      have e0 : a.tmps[0]? = some (.pointer (some ⟨p, 0, none⟩)) := by rw [ha]; exact (putSel_off rfl).trans rfl
      replace ha := Aside0.mk ha
      have HB := Aside0.mk (Q_HB (hoff 11 (by kernel_rfl)))
      have HR := Aside0.mk (Q_HR (hoff 11 (by kernel_rfl)))
      refine value_ (w1 := w') (v := .pointer (some ⟨p, 0, none⟩)) (by rfl) rfl ?_ ?_
      ·go_simp
       (try simp only [i64_w])
       try rfl
      refine hK.out _ _ ⟨(by rw [ha.out]; exact putSel_upk 5 hb_ rfl rfl rfl), Q_HB, Q_HR, fun h0_ => absurd ((hoff 11 (by kernel_rfl)).symm.trans h0_) (by decide)⟩
     refine steps_cons ?_ ?_
     ·rintro b a w' ⟨ha, Q_HB, Q_HR, Q_HN⟩ hb_ hon hoff
      refine ⟨_, rfl, fun K hK => ?_⟩
      have e67 : a.tmps[67]? = some (.pointer (some ⟨p, 0, none⟩)) := by rw [ha]; exact putSel_on (e := (5, 67, .pointer (some ⟨p, 0, none⟩))) 5 rfl rfl (hon 5 (by kernel_rfl)) rfl
      replace ha := Aside0.mk ha
      have HB := Aside0.mk (Q_HB (hoff 11 (by kernel_rfl)))
      have HR := Aside0.mk (Q_HR (hoff 11 (by kernel_rfl)))
      refine value_ (w1 := w') (v := .pointer (some ⟨p, 0, none⟩)) (by rfl) rfl ?_ ?_
      ·go_simp
       (try simp only [i64_w])
       try rfl
      refine hK.out _ _ ⟨(by rw [ha.out]; exact putSel_upk 6 hb_ rfl rfl rfl), Q_HB, Q_HR, fun h0_ => absurd ((hoff 11 (by kernel_rfl)).symm.trans h0_) (by decide)⟩
     refine steps_cons ?_ ?_
     ·rintro b a w' ⟨ha, Q_HB, Q_HR, Q_HN⟩ hb_ hon hoff
      refine ⟨_, rfl, fun K hK => ?_⟩
      have e68 : a.tmps[68]? = some (.pointer (some ⟨p, 0, none⟩)) := by rw [ha]; exact putSel_on (e := (6, 68, .pointer (some ⟨p, 0, none⟩))) 6 rfl rfl (hon 6 (by kernel_rfl)) rfl
      replace ha := Aside0.mk ha
      have HB := Aside0.mk (Q_HB (hoff 11 (by kernel_rfl)))
      have HR := Aside0.mk (Q_HR (hoff 11 (by kernel_rfl)))
      refine value_ (w1 := w') (v := .pointer (some ⟨p, 7, none⟩)) (by rfl) rfl ?_ ?_
      ·go_simp
       (try simp only [i64_w])
       try rfl
      refine hK.out _ _ ⟨(by rw [ha.out]; exact putSel_upk 7 hb_ rfl rfl rfl), Q_HB, Q_HR, fun h0_ => absurd ((hoff 11 (by kernel_rfl)).symm.trans h0_) (by decide)⟩
     refine steps_cons ?_ ?_
     ·rintro b a w' ⟨ha, Q_HB, Q_HR, Q_HN⟩ hb_ hon hoff
      refine ⟨_, rfl, fun K hK => ?_⟩
      have e69 : a.tmps[69]? = some (.pointer (some ⟨p, 7, none⟩)) := by rw [ha]; exact putSel_on (e := (7, 69, .pointer (some ⟨p, 7, none⟩))) 7 rfl rfl (hon 7 (by kernel_rfl)) rfl
      replace ha := Aside0.mk ha
      have HB := Aside0.mk (Q_HB (hoff 11 (by kernel_rfl)))
      have HR := Aside0.mk (Q_HR (hoff 11 (by kernel_rfl)))
      have hc7_ : w'.cell? ⟨p, 7, none⟩ = some (.int .u64 Lq.next) := (HL.out.below HB.out).cell 7 _ rfl
      refine value_ (w1 := w') (v := .int .u64 Lq.next) (by rfl) rfl ?_ ?_
      ·go_simp
       (try simp only [i64_w])
       try rfl
      refine hK.out _ _ ⟨(by rw [ha.out]; exact putSel_upk 8 hb_ rfl rfl rfl), Q_HB, Q_HR, fun h0_ => absurd ((hoff 11 (by kernel_rfl)).symm.trans h0_) (by decide)⟩
     refine steps_cons ?_ ?_
     ·rintro b a w' ⟨ha, Q_HB, Q_HR, Q_HN⟩ hb_ hon hoff
      refine ⟨_, rfl, fun K hK => ?_⟩
      have e66 : a.tmps[66]? = some (.pointer (some ⟨p, 0, none⟩)) := by rw [ha]; exact putSel_on (e := (4, 66, .pointer (some ⟨p, 0, none⟩))) 4 rfl rfl (hon 4 (by kernel_rfl)) rfl
      have e70 : a.tmps[70]? = some (.int .u64 Lq.next) := by rw [ha]; exact putSel_on (e := (8, 70, .int .u64 Lq.next)) 8 rfl rfl (hon 8 (by kernel_rfl)) rfl
      replace ha := Aside0.mk ha
      have HB := Aside0.mk (Q_HB (hoff 11 (by kernel_rfl)))
      have HR := Aside0.mk (Q_HR (hoff 11 (by kernel_rfl)))
      refine goes_ Try.func57 (by kernel_rfl) rfl #[.pointer (some ⟨p, 0, none⟩), .int .u64 Lq.next] (by rfl) rfl rfl (by first | (simp only [List.map_toArray, List.map_cons, List.map_nil, Act.eval, Array.getD_eq_getD_getElem?, Option.getD_some, e66, e70]; done) | (simp only [List.map_toArray, List.map_cons, List.map_nil, Act.eval, Array.getD_eq_getD_getElem?, Option.getD_some, e66, e70]; rfl)) ?_
      refine (place_l (HL.out.below HB.out) hk.out Lq.next hn0.out.1 hn0.out.2).mono ?_
      rintro e_ wn_ ⟨rfl, k_, rfl⟩
      refine ⟨_, rfl, ?_⟩
      refine hK.out _ _ ⟨(by rw [ha.out]; exact putSel_upk 9 hb_ rfl rfl rfl), fun _ => (below_step HB.out (below_drewN w' k_)), fun _ => (HR.out.below (below_drewN w' k_)), fun h0_ => absurd ((hoff 11 (by kernel_rfl)).symm.trans h0_) (by decide)⟩
     refine steps_cons ?_ ?_
     ·rintro b a w' ⟨ha, Q_HB, Q_HR, Q_HN⟩ hb_ hon hoff
      refine ⟨_, rfl, fun K hK => ?_⟩
      have e10 : a.tmps[10]? = some (.slice A10 sB.length c10) := by rw [ha]; exact (putSel_off rfl).trans rfl
      replace ha := Aside0.mk ha
      have HB := Aside0.mk (Q_HB (hoff 11 (by kernel_rfl)))
      have HR := Aside0.mk (Q_HR (hoff 11 (by kernel_rfl)))
      refine value_ (w1 := w') (v := .slice A10 sB.length c10) (by rfl) rfl ?_ ?_
      ·go_simp
       (try simp only [i64_w])
       try rfl
      refine hK.out _ _ ⟨(by rw [ha.out]; exact putSel_upk 10 hb_ rfl rfl rfl), Q_HB, Q_HR, fun h0_ => absurd ((hoff 11 (by kernel_rfl)).symm.trans h0_) (by decide)⟩
     refine steps_cons ?_ ?_
     ·rintro b a w' ⟨ha, Q_HB, Q_HR, Q_HN⟩ hb_ hon hoff
      refine ⟨_, rfl, fun K hK => ?_⟩
      have e65 : a.tmps[65]? = some (.pointer (some ⟨g, 0, none⟩)) := by rw [ha]; exact putSel_on (e := (3, 65, .pointer (some ⟨g, 0, none⟩))) 3 rfl rfl (hon 3 (by kernel_rfl)) rfl
      have e71 : a.tmps[71]? = some (.int .i64 (Lq.pl Lq.next)) := by rw [ha]; exact putSel_on (e := (9, 71, .int .i64 (Lq.pl Lq.next))) 9 rfl rfl (hon 9 (by kernel_rfl)) rfl
      have e72 : a.tmps[72]? = some (.slice A10 sB.length c10) := by rw [ha]; exact putSel_on (e := (10, 72, .slice A10 sB.length c10)) 10 rfl rfl (hon 10 (by kernel_rfl)) rfl
      replace ha := Aside0.mk ha
      have HB := Aside0.mk (Q_HB hb_)
      have HR := Aside0.mk (Q_HR hb_)
      refine goes_ Try.func20 (by kernel_rfl) rfl #[.pointer (some ⟨g, 0, none⟩), .int .i64 (Lq.pl Lq.next), .slice A10 sB.length c10] (by rfl) rfl rfl (by first | (simp only [List.map_toArray, List.map_cons, List.map_nil, Act.eval, Array.getD_eq_getD_getElem?, Option.getD_some, e65, e71, e72]; done) | (simp only [List.map_toArray, List.map_cons, List.map_nil, Act.eval, Array.getD_eq_getD_getElem?, Option.getD_some, e65, e71, e72]; rfl)) ?_
      refine (st_write (HL.out.below HB.out).D (Lq.pl Lq.next) A10 c10 sB (fun W' hk_ => rb_kept HR.out hk_ HS.out) hc10.out hwt.out).mono ?_
      rintro e_ wn_ ⟨rfl, S'_, hs_, hsub_, hkp_⟩
      refine ⟨_, rfl, ?_⟩
      refine hK.out _ _ ⟨(by rw [ha.out]; exact putSel_upk 11 hb_ rfl rfl rfl), fun h0_ => absurd ((up_self b 11).symm.trans h0_) (by decide), fun h0_ => absurd ((up_self b 11).symm.trans h0_) (by decide), fun _ => ⟨S'_, ⟨hs_, (hkp_.block p (HL.out.below HB.out).lt HL.out.N).trans (HL.out.below HB.out).B, HL.out.P, fun h_ => (hsub_ p h_).elim HL.out.N (fun h2_ => Nat.lt_irrefl _ (Nat.lt_of_lt_of_le (HL.out.below HB.out).lt h2_))⟩, fun k_ h_ => (hsub_ k_ h_).imp id (fun h2_ => Nat.le_trans HB.out.size h2_), (Dk.Kept.of_below HB.out Sq).then_ hkp_ (fun _ h_ => .inl h_)⟩⟩
     refine steps_cons ?_ ?_
     ·rintro b a w' ⟨ha, Q_HB, Q_HR, Q_HN⟩ hb_ hon hoff
      refine ⟨_, rfl, fun K hK => ?_⟩
      have e73 : a.tmps[73]? = some (.int .i64 (Mq.wrE (Lq.pl Lq.next) sB.length)) := by rw [ha]; exact putSel_on (e := (11, 73, .int .i64 (Mq.wrE (Lq.pl Lq.next) sB.length))) 11 rfl rfl (hon 11 (by kernel_rfl)) rfl
      replace ha := Aside0.mk ha
      have HN := Aside0.mk (Q_HN (hon 11 (by kernel_rfl)))
      refine value_ (w1 := w') (v := .int .i64 (Mq.wrE (Lq.pl Lq.next) sB.length)) (by rfl) rfl ?_ ?_
      ·go_simp
       (try simp only [i64_w])
       try rfl
      refine hK.out _ _ ⟨(by rw [ha.out]; exact putSel_upk 12 hb_ rfl rfl rfl), fun h0_ => absurd ((hon 11 (by kernel_rfl)).symm.trans h0_) (by decide), fun h0_ => absurd ((hon 11 (by kernel_rfl)).symm.trans h0_) (by decide), Q_HN⟩
     exact steps_nil
    rintro b a w' hall ⟨ha, Q_HB, Q_HR, Q_HN⟩
    clear HB HR
    have hb0_ := hall 0 (by kernel_rfl)
    have hb1_ := hall 1 (by kernel_rfl)
    have hb2_ := hall 2 (by kernel_rfl)
    have hb3_ := hall 3 (by kernel_rfl)
    have hb4_ := hall 4 (by kernel_rfl)
    have hb5_ := hall 5 (by kernel_rfl)
    have hb6_ := hall 6 (by kernel_rfl)
    have hb7_ := hall 7 (by kernel_rfl)
    have hb8_ := hall 8 (by kernel_rfl)
    have hb9_ := hall 9 (by kernel_rfl)
    have hb10_ := hall 10 (by kernel_rfl)
    have hb11_ := hall 11 (by kernel_rfl)
    have hb12_ := hall 12 (by kernel_rfl)
    subst ha
    simp only [putSel, hb0_, hb1_, hb2_, hb3_, hb4_, hb5_, hb6_, hb7_, hb8_, hb9_, hb10_, hb11_, hb12_, if_true, Act.put, List.setIfInBounds_toArray, List.set_cons_zero, List.set_cons_succ]
    clear Q_HB Q_HR
    have HN := Aside0.mk (Q_HN hb11_)
    clear Q_HN
    clear hall hb0_ hb1_ hb2_ hb3_ hb4_ hb5_ hb6_ hb7_ hb8_ hb9_ hb10_ hb11_ hb12_
    obtain ⟨S', hl1, hsub, hkp⟩ := HN.out
    have HL1 := Aside0.mk hl1
    have HS1 := Aside0.mk hsub
    have HK1 := Aside0.mk ((HA.out.kp.then_ hkp (fun k h => (HA.out.sub k h).imp .inl id)))
    clear hl1 hsub hkp HN
    obtain ⟨E, hE⟩ : ∃ E, E = Mq.wrE (Lq.pl Lq.next) sB.length := ⟨_, rfl⟩
    simp only [← hE]
    have HE := Aside0.mk hE
    have c7 : w'.cell? ⟨p, 7, none⟩ = some (.int .u64 Lq.next) := HL1.out.cell 7 _ rfl
    have f7 : w'.frozen? ⟨p, 7, none⟩ = false := blk_frozen HL1.out.B 7
    have HL2 := Aside0.mk (show Lg w0 (w'.setCell ⟨p, 7, none⟩ (.int .u64 (Lq.next + 1))) p g S' Lq.app1 _ from HL1.out.setw rfl)
    have HK2 := Aside0.mk (HK1.out.setCell (p := ⟨p, 7, none⟩) (.inl (.inr rfl)) (.int .u64 (Lq.next + 1)))
    have hnw2 := hnw.out
    clear hE HL1 HK1
    by_cases hz : E = 0
    ·subst hz
     have hcm := hmc.out
     by_cases hcj : c' = 480
     ·exact absurd HA.out.rc (by have := HLL.out; omega)
     ·go_wp2
      go_roundw
      case rel =>
       exact ⟨false, j + 1, A'.map (·.add 480), c' - 480, r.drop 480, (by rw [List.length_drop]; first | rfl | (cases A' <;> simp [Addr.add])), rfl, ⟨S', Lq.app1, _, by
        rw [HSB.out] at HL2 HE
        exact HA.out.stepF HLL.out rfl HE.out.symm HL2.out HS1.out HK2.out (by rw [List.length_drop]; omega) (fun W' hk => by have h_ := Kd.C_drop (m := 480) (c := c') (HA.out.C W' hk) hmr.out HA.out.rc; rw [if_neg hcj, show 480 * (Kd.int .u8).sz = 480 from Nat.mul_one _] at h_; exact h_)⟩⟩
      case measure => simp [lenOf, notB] <;> omega
    ·have t0 : (E != 0) = true := by simpa using hz
     go_wp2
     go_ret2
     have h0 := HA.out.stop (by rw [← HSB.out, ← HE.out]; exact hz)
     rw [← HSB.out, ← HE.out] at h0
     have h1 := HRL.out
     rw [h0, if_neg hz] at h1
     rw [h0, h1]
     exact ⟨rfl, S', HL2.out, fun k hk => (HS1.out k hk).elim (HA.out.sub k) (fun h2 => .inr (Nat.le_trans HA.out.kp.size h2)), HK2.out⟩
end
end Go.Proofs.Ytihmfccpgahmaaa.Wal
