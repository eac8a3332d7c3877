/- The log of package wal: what it holds in memory, its small methods, walked; numbers and texts laid and read. No conditions beyond those that a contract names. -/
import Derived.Test.YtihmfccpgahmaaaDkConv
import Derived.Test.YtihmfccpgahmaaaWRd
import Derived.Test.YtihmfccpgahmaaaRdBack
import Derived.Test.YtihmfccpgahmaaaQ2
import Derived.Deep.QuietTactic
import Derived.Laws.Rows
import Derived.BigQuiet
namespace Go.Proofs.Ytihmfccpgahmaaa.Wal
open Go Go.RowKit Go.Proofs.YtihmfccpgahmaaaW.PrintWords Go.Proofs.YtihmfccpgahmaaaW.PrintMore Go.Proofs.YtihmfccpgahmaaaW.PrintLast Go.Proofs.Ytihmfccpgahmaaa.Dk Go.Proofs.Ytihmfccpgahmaaa.Q Go.Proofs.Ytihmfccpgahmaaa.Str Go.Proofs.Ytihmfccpgahmaaa.Leb
set_option linter.unusedVariables false
set_option linter.unusedSimpArgs false

structure LA where
  fr : Int
  ring : Int
  seq : Int
  life : Int
  start : Int
  floor : Int
  next : Int
  forced : Int
def LA.cs (g : Nat) (L : LA) : Array Value := #[.pointer (some ⟨g, 0, none⟩), .int .i64 L.fr, .int .i64 L.ring, .int .u64 L.seq, .int .u64 L.life, .int .u64 L.start, .int .u64 L.floor, .int .u64 L.next, .int .u64 L.forced]

/-- All that stands on a disk, or may stand there, is bytes. -/
structure DY (M : DA) : Prop where
  now : ∀ s ∈ M.now, Byt s
  safe : ∀ s ∈ M.safe, Byt s
  wait : ∀ x ∈ M.wait, Byt x.2

/-- A log at block p, on a disk at block g; the law began at w0. -/
structure Lg (w0 w : World) (p g : Nat) (S : Nat → Prop) (L : LA) (M : DA) : Prop where
  D : St w0 w g S M
  B : w.heap[p]? = some (.cells (L.cs g) 89 (0, 0))
  P : w0.heap.size ≤ p
  N : ¬ S p
section
variable {w0 w W : World} {p g : Nat} {S : Nat → Prop} {L : LA} {M : DA}
theorem Lg.lt (h : Lg w0 w p g S L M) : p < w.heap.size := blk_lt h.B
theorem Lg.below (h : Lg w0 w p g S L M) (hb : Below w.heap.size w W) : Lg w0 W p g S L M := ⟨h.D.below hb, (hb.block p h.lt).trans h.B, h.P, h.N⟩
theorem Lg.cell (h : Lg w0 w p g S L M) (j : Nat) (v : Value) (hv : (L.cs g)[j]? = some v) : w.cell? ⟨p, j, none⟩ = some v := (blk_cell h.B j).trans hv
theorem Lg.all (h : Lg w0 w p g S L M) : w.cell? ⟨p, 0, none⟩ = some (.pointer (some ⟨g, 0, none⟩)) ∧ w.cell? ⟨p, 1, none⟩ = some (.int .i64 L.fr) ∧ w.cell? ⟨p, 2, none⟩ = some (.int .i64 L.ring) ∧ w.cell? ⟨p, 3, none⟩ = some (.int .u64 L.seq) ∧ w.cell? ⟨p, 4, none⟩ = some (.int .u64 L.life) ∧ w.cell? ⟨p, 5, none⟩ = some (.int .u64 L.start) ∧ w.cell? ⟨p, 6, none⟩ = some (.int .u64 L.floor) ∧ w.cell? ⟨p, 7, none⟩ = some (.int .u64 L.next) ∧ w.cell? ⟨p, 8, none⟩ = some (.int .u64 L.forced) :=
  ⟨h.cell 0 _ rfl, h.cell 1 _ rfl, h.cell 2 _ rfl, h.cell 3 _ rfl, h.cell 4 _ rfl, h.cell 5 _ rfl, h.cell 6 _ rfl, h.cell 7 _ rfl, h.cell 8 _ rfl⟩
end

/-- Three results, the first a struct in a block of its own. -/
theorem results_cell2 {P : Program} {fn : Func} {p t u : Tmp} {ty : TypeId} (h : fn.results = #[.cell p ty, .tmp t, .tmp u]) (tmps : Array Value) (w : World) (g : Nat) (t0 : TypeId) (cs : Array Value) (fr : Nat × Nat) (d : TypeDesc)
    (hp : tmps.getD p undef = .pointer (some ⟨g, 0, none⟩)) (hg : w.heap[g]? = some (.cells cs t0 fr)) (hu : P.underlying ty = some d) (hd : (match d with | .struct _ | .array _ _ => true | _ => false) = true) (hi : (P.info? ty).map (·.size) = some cs.size) :
    (results fn tmps).run P w = .ok (.tuple #[.agg cs, tmps.getD t undef, tmps.getD u undef]) w := by
  have hp' : tmps[p]?.getD undef = .pointer (some ⟨g, 0, none⟩) := by simpa using hp
  simp [results, h, hp', asAddr, run_loadVar_row w g t0 ty cs fr d hg hu hd hi]
theorem results_tmp5 {P : Program} {fn : Func} {t0 t1 t2 t3 t4 : Tmp} (h : fn.results = #[.tmp t0, .tmp t1, .tmp t2, .tmp t3, .tmp t4]) (tmps : Array Value) (w : World) :
    (results fn tmps).run P w = .ok (.tuple #[tmps.getD t0 undef, tmps.getD t1 undef, tmps.getD t2 undef, tmps.getD t3 undef, tmps.getD t4 undef]) w := by
  simp [results, h]

/-! ### Numbers and texts laid -/
/-- What the printed Put tells: with rounds enough it lays leb behind what was there. -/
theorem put_l0 : ∀ (n : Nat) (k : Nat) (l : List Int), (leb n).length ≤ k → l.length + (leb n).length ≤ 140737488355328 → num_Put.l0 k l (n : Int) = some (l ++ leb n) := by
  intro n
  induction n using Nat.strongRecOn with
  | _ n ih =>
    intro k l hk hl
    have hp := leb_pos n
    obtain ⟨k, rfl⟩ : ∃ m, k = m + 1 := ⟨k - 1, by omega⟩
    by_cases c : n < 128
    · simp only [num_Put.l0]
      rw [if_neg (by omega)]
      rw [leb_lt c] at hl ⊢
      simp only [List.length_cons, List.length_nil] at hl
      rw [if_pos (by omega), Int.emod_eq_of_lt (by omega) (by omega)]
    · rw [leb_ge (by omega)] at hl hk ⊢
      simp only [List.length_cons] at hl hk
      simp only [num_Put.l0]
      rw [if_pos (by omega), if_pos (by omega), or128_leb, show ((n : Nat) : Int) / 128 = ((n / 128 : Nat) : Int) by omega]
      rw [ih (n / 128) (by omega) k (l ++ [((n % 128 + 128 : Nat) : Int)]) (by omega) (by simp; omega)]
      simp
theorem put_l (n : Nat) (k : Nat) (l : List Int) (h : n < 18446744073709551616) (hk : 10 ≤ k) (hl : l.length ≤ 140737488355000) : num_Put.f k l n = some (l ++ leb n) := by
  have := leb_ten h
  unfold num_Put.f
  exact put_l0 n k l (by omega) (by omega)
theorem text_l (k : Nat) (l : List Int) (s : ByteArray) (hs : s.size < 140737488350000) (hk : 10 ≤ k) (hl : l.length + s.size ≤ 140737488355000) : num_Text.f k l s = some (l ++ (leb s.size ++ bytesOf s)) := by
  have h10 := leb_ten (n := s.size) (by omega)
  unfold num_Text.f
  have w : IntKind.u64.wrap ((s.size : Int)) = ((s.size : Nat) : Int) := by simp [IntKind.wrap, IntKind.bits, IntKind.signed]; omega
  rw [w, put_l s.size k l (by omega) hk (by omega)]
  simp only [Option.bind_some]
  rw [if_pos (by simp; omega), List.append_assoc]
/-- A row of bytes of one's own, made since w0. -/
def Rb (w0 w : World) (v : Value) (l : List Int) : Prop := (Kd.int .u8).R 5 w w0.heap.size (fun _ => True) v l
section
variable {w0 w W : World} {v : Value} {l : List Int}
theorem Rb.nil (w0 w : World) : Rb w0 w (.slice none 0 0) [] := Kd.R_nil _ _ _ _ _
theorem Rb.below (h : Rb w0 w v l) (hb : Below w.heap.size w W) : Rb w0 W v l := Kd.R_below h hb
theorem Rb.open_ (h : Rb w0 w v l) : ∃ A c, v = .slice A l.length c ∧ l.length ≤ c ∧ Kd.C (Kd.int .u8) w A l.length l := Kd.R_reads h
theorem put_b (hB : Below w0.heap.size w0 w) (hR : Rb w0 w v l) (n : Int) (h0 : 0 ≤ n) (h1 : n < 18446744073709551616) (hl : l.length ≤ 1000000) :
    Calls Try.prog 37 #[v, .int .u64 n] w fun e w' => ∃ v', e = .returned v' ∧ Rb w0 w' v' (l ++ leb n.toNat) ∧ Below w0.heap.size w0 w' := by
  obtain ⟨m, rfl⟩ := Int.eq_ofNat_of_zero_le h0
  refine (num_Put.calls 10 (fun _ => True) v l m (l ++ leb m) w0 w hB hR (put_l m 10 l (by omega) (by omega) (by omega))).mono ?_
  rintro e w' ⟨v0, rfl, hR', hB', _⟩
  exact ⟨v0, rfl, Kd.R_mono hR' (fun _ _ => trivial), hB'⟩
theorem text_b (hB : Below w0.heap.size w0 w) (hR : Rb w0 w v l) (s : ByteArray) (hs : s.size ≤ 1000000) (hl : l.length ≤ 1000000) :
    Calls Try.prog 38 #[v, .string s] w fun e w' => ∃ v', e = .returned v' ∧ Rb w0 w' v' (l ++ (leb s.size ++ bytesOf s)) ∧ Below w0.heap.size w0 w' := by
  refine (num_Text.calls 10 (fun _ => True) v l s _ w0 w hB hR (text_l 10 l s (by omega) (by omega) (by omega))).mono ?_
  rintro e w' ⟨v0, rfl, hR', hB', _⟩
  exact ⟨v0, rfl, Kd.R_mono hR' (fun _ _ => trivial), hB'⟩
end

/-! ### Numbers and texts read -/
section
variable {w0 w : World} {g : Nat} {s : RdS}
/-- A reader at block g whose bytes came in by w0. -/
abbrev Rdr (w0 w : World) (g : Nat) (s : RdS) : Prop := IsS107 w0 w g s
theorem rd_num (h : Rdr w0 w g s) (hB : Below w0.heap.size w0 w) (m : Int) : Calls Try.prog 62 #[.pointer (some ⟨g, 0, none⟩), .int .u64 m] w fun e w' => e = .returned (.int .u64 (rnum s m).1) ∧ Rdr w0 w' g (rnum s m).2 ∧ Below w0.heap.size w0 w' ∧ KeepBut w w' g none :=
  num_Reader_Num.calls g s m _ _ w0 w h hB rfl
theorem rd_text (h : Rdr w0 w g s) (hB : Below w0.heap.size w0 w) (m : Int) (h0 : -9223372036854775808 ≤ m) (h1 : m ≤ 9223372036854775807) : Calls Try.prog 61 #[.pointer (some ⟨g, 0, none⟩), .int .i64 m] w fun e w' => e = .returned (.string (rtext s m).1) ∧ Rdr w0 w' g (rtext s m).2 ∧ Below w0.heap.size w0 w' ∧ KeepBut w w' g none :=
  num_Reader_Text.calls g s m _ _ w0 w h hB (if_pos ⟨h0, h1⟩)
theorem rd_err (h : Rdr w0 w g s) : Calls Try.prog 63 #[.pointer (some ⟨g, 0, none⟩)] w fun e w' => e = .returned (.int .i64 s.e) ∧ w' = w := by
  obtain ⟨A, c, hb, hg, hC, hc, hy⟩ := h
  have c1 : w.cell? ⟨g, 1, none⟩ = some (.int .i64 s.e) := (blk_cell hb 1).trans rfl
  clear hb hC hy hg hc
  go_enter Try.func63, Try.ntmps63
  go_wp2
  go_ret
  exact ⟨rfl, rfl⟩
theorem rd_read (hB : Below w0.heap.size w0 w) {A : Option Addr} {c : Nat} {l : List Int} (hC : Kd.C (Kd.int .u8) w0 A l.length l) (hc : l.length ≤ c) (hy : Byt l) : Calls Try.prog 60 #[.slice A l.length c] w fun e w' => ∃ g, e = .returned (.pointer (some ⟨g, 0, none⟩)) ∧ Rdr w0 w' g ⟨l, 0⟩ ∧ Below w.heap.size w w' ∧ g = w.heap.size := by
  have HC := Aside0.mk hC
  have HB := Aside0.mk hB
  have HY := Aside0.mk hy
  clear hC hB hy
  go_enter Try.func60, Try.ntmps60
  go_wp2
  go_ret
  exact ⟨_, rfl, ⟨A, c, blk_new _ _, HB.out.size, HC.out, hc, HY.out⟩, below_alloc (Below.refl _ _) _, rfl⟩
end

theorem rnum_byt {s : RdS} (h : Byt s.b) (m : Int) : Byt (rnum s m).2.b := by
  unfold rnum
  split
  · have : ∀ (l : List Int) (j : Nat) (acc : Int), Byt l → Byt (rgo m j acc l).2.b := by
      intro l
      induction l with
      | nil => intro j acc _; rw [rgo_short]; exact Byt.nil
      | cons x t ih =>
        intro j acc hb
        by_cases hbad : (j = 9 ∧ 1 < x) ∨ (0 < j ∧ x = 0)
        · rw [rgo_bad hbad]; exact Byt.nil
        · by_cases hc : 128 ≤ x
          · rw [rgo_more hbad hc]; exact ih _ _ hb.tail
          · by_cases hm : m < acc + x % 128 * 128 ^ j
            · rw [rgo_many hbad (by omega) hm]; exact Byt.nil
            · rw [rgo_done hbad (by omega) hm]; exact hb.tail
    exact this _ _ _ h
  · exact h
theorem rtext_byt {s : RdS} (h : Byt s.b) (m : Int) : Byt (rtext s m).2.b := by
  have := rnum_byt h (if 0 < m then m else 0)
  unfold rtext
  generalize rnum s (if 0 < m then m else 0) = q at this ⊢
  show Byt (if q.2.e = 0 then _ else _ : ByteArray × RdS).2.b
  by_cases h1 : q.2.e = 0
  · rw [if_pos h1]
    by_cases h2 : (q.2.b.length : Int) < q.1
    · rw [if_pos h2]; exact Byt.nil
    · rw [if_neg h2]; exact this.drop _
  · rw [if_neg h1]; exact this
theorem text_byt {l : List Int} (h : Byt l) (m : Int) (_hm : 0 ≤ m) {q : ByteArray × RdS} (hq : q = rtext ⟨l, 0⟩ m) : Byt q.2.b := by
  rw [hq]
  exact rtext_byt h m

/-! ### Small methods -/
section
variable {w0 w : World} {p g : Nat} {S : Nat → Prop} {L : LA} {M : DA}
theorem start_l (h : Lg w0 w p g S L M) : Calls Try.prog 47 #[.pointer (some ⟨p, 0, none⟩)] w fun e w' => e = .returned (.int .u64 L.start) ∧ w' = w := by
  obtain ⟨c0, c1, c2, c3, c4, c5, c6, c7, c8⟩ := h.all
  clear h
  go_enter Try.func47, Try.ntmps47
  go_wp2
  go_ret
  exact ⟨rfl, rfl⟩
theorem next_l (h : Lg w0 w p g S L M) : Calls Try.prog 46 #[.pointer (some ⟨p, 0, none⟩)] w fun e w' => e = .returned (.int .u64 L.next) ∧ w' = w := by
  obtain ⟨c0, c1, c2, c3, c4, c5, c6, c7, c8⟩ := h.all
  clear h
  go_enter Try.func46, Try.ntmps46
  go_wp2
  go_ret
  exact ⟨rfl, rfl⟩
theorem safe_l (h : Lg w0 w p g S L M) : Calls Try.prog 49 #[.pointer (some ⟨p, 0, none⟩)] w fun e w' => e = .returned (.int .u64 L.forced) ∧ w' = w := by
  obtain ⟨c0, c1, c2, c3, c4, c5, c6, c7, c8⟩ := h.all
  clear h
  go_enter Try.func49, Try.ntmps49
  go_wp2
  go_ret
  exact ⟨rfl, rfl⟩
theorem life_l (h : Lg w0 w p g S L M) : Calls Try.prog 44 #[.pointer (some ⟨p, 0, none⟩)] w fun e w' => e = .returned (.int .u64 L.life) ∧ w' = w := by
  obtain ⟨c0, c1, c2, c3, c4, c5, c6, c7, c8⟩ := h.all
  clear h
  go_enter Try.func44, Try.ntmps44
  go_wp2
  go_ret
  exact ⟨rfl, rfl⟩
theorem room_l (h : Lg w0 w p g S L M) : Calls Try.prog 48 #[.pointer (some ⟨p, 0, none⟩)] w fun e w' => e = .returned (.int .i64 L.ring) ∧ w' = w := by
  obtain ⟨c0, c1, c2, c3, c4, c5, c6, c7, c8⟩ := h.all
  clear h
  go_enter Try.func48, Try.ntmps48
  go_wp2
  go_ret
  exact ⟨rfl, rfl⟩
/-- The sector of a number. -/
def LA.pl (L : LA) (n : Int) : Int := L.fr + 2 + n % L.ring
theorem w64 {n : Int} (h0 : 0 ≤ n) (h1 : n < 9223372036854775808) : wrap64 n = n := by unfold wrap64; omega
theorem wu64 {n : Int} (h0 : 0 ≤ n) (h1 : n < 18446744073709551616) : IntKind.u64.wrap n = n := by simp [IntKind.wrap, IntKind.bits, IntKind.signed]; omega
theorem wi64 {n : Int} (h0 : -9223372036854775808 ≤ n) (h1 : n < 9223372036854775808) : IntKind.i64.wrap n = n := by simp [IntKind.wrap, IntKind.bits, IntKind.signed]; omega

/-- Numbers within their bounds. -/
structure LA.Ok (L : LA) (n : Nat) : Prop where
  f0 : 0 ≤ L.fr
  r0 : 0 < L.ring
  fn : L.fr + 2 + L.ring ≤ n
  n6 : n ≤ 65536
  q0 : 0 ≤ L.seq
  q1 : L.seq ≤ 9223372036954775808
  l0 : 0 ≤ L.life
  l1 : L.life ≤ 1099612627776
  s0 : 0 ≤ L.start
  o0 : 0 ≤ L.floor
  o1 : L.floor ≤ 1099612627776
  sn : L.start ≤ L.next
  nr : L.next ≤ L.start + L.ring
  nx : L.next ≤ 4611686018437387904
  c0 : 0 ≤ L.forced
  c1 : L.forced ≤ L.next
theorem LA.Ok.pl {n : Nat} (h : L.Ok n) (k : Int) : 0 ≤ L.pl k ∧ L.pl k < n ∧ L.fr + 2 ≤ L.pl k := by
  have h1 := Int.emod_nonneg k (show L.ring ≠ 0 by have := h.r0; omega)
  have h2 := Int.emod_lt_of_pos k h.r0
  have := h.f0
  have := h.fn
  unfold LA.pl
  omega
set_option maxHeartbeats 1000000 in
theorem place_l (h : Lg w0 w p g S L M) (hk : L.Ok M.now.length) (n : Int) (h0 : 0 ≤ n) (h1 : n < 9223372036854775808) : Calls Try.prog 57 #[.pointer (some ⟨p, 0, none⟩), .int .u64 n] w fun e w' => e = .returned (.int .i64 (L.pl n)) ∧ ∃ k, w' = w.drewN k := by
  obtain ⟨c0, c1, c2, c3, c4, c5, c6, c7, c8⟩ := h.all
  have hr := hk.r0
  have hf := hk.f0
  have hfn := hk.fn
  have h6 := hk.n6
  have hm1 := Int.emod_nonneg n (show L.ring ≠ 0 by omega)
  have hm2 := Int.emod_lt_of_pos n hr
  have t0 : (L.ring == 0) = false := by simp; omega
  have e1 : IntKind.u64.wrap L.ring = L.ring := wu64 (by omega) (by omega)
  have e2 : Int.tmod n L.ring = n % L.ring := Int.tmod_eq_emod_of_nonneg h0
  clear h hk
  go_enter Try.func57, Try.ntmps57
  go_upto_region 1 with fail
  go_quiet (fail)
  go_wp2
  go_ret
  exact ⟨rfl, _, rfl⟩
end
end Go.Proofs.Ytihmfccpgahmaaa.Wal
