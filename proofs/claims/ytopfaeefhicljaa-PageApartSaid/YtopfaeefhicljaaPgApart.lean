/- Proved: PageApart answers true: unlike right pages, or one by unlike entries, are unlike bytes; noughts alone are no page. No conditions beyond the given statement's. -/
import Derived.Test.YtopfaeefhicljaaPg
import Derived.Test.YtopfaeefhicljaaWLast
import Derived.Deep.QuietTactic
import Derived.BigQuiet
import Derived.Deep.RegionHeld3
import Derived.Deep.RegionWith
import Derived.RegionTactic
import Derived.Tactics2
namespace Go.Proofs.Ytopfaeefhicljaa.PgApart
open Go Go.RowKit Go.Proofs.Ytopfaeefhicljaa.Q Go.Proofs.YtopfaeefhicljaaW.PrintWords Go.Proofs.YtopfaeefhicljaaW.PrintLast Go.Proofs.Ytopfaeefhicljaa.Leb Go.Proofs.Ytopfaeefhicljaa.Str
set_option linter.unusedVariables false
set_option linter.unusedSimpArgs false

theorem and_mask (i : Int) (m : Nat) (hm : m < 9223372036854775808) : ∃ k : Nat, bits .and .i64 i (m : Int) = (k : Int) ∧ k ≤ m := by
  have hb' : m % 2 ^ IntKind.i64.bits = m := Nat.mod_eq_of_lt (by simp [IntKind.bits]; omega)
  have hq : (BitVec.ofInt IntKind.i64.bits i).toNat &&& m ≤ m := Nat.and_le_right
  refine ⟨(BitVec.ofInt IntKind.i64.bits i).toNat &&& m, ?_, hq⟩
  simp only [bits, BitVec.ofInt_natCast, BitVec.toNat_and, BitVec.toNat_ofNat, hb']
  rw [IntKind.wrap_i64]
  omega

/-- Noughts alone are no page. -/
theorem dec_zero (m : Nat) (hm : m ≤ 1000) : page_Decode.f 200 (List.replicate m 0) = some (zeroV.kind, zeroV.keys, zeroV.vals, zeroV.kids, zeroV.root, zeroV.next, zeroV.size, zeroV.idle, 0, 11) := by
  have hz : ∀ x ∈ List.replicate m (0 : Int), x = 0 := fun x hx => List.eq_of_mem_replicate hx
  rcases dec_any_p 200 (List.replicate m 0) (by omega) (byt_noughts hz) (by simp; omega) with h | ⟨p, j, t, _, hr, he, _⟩
  · exact h
  · exfalso
    have r := (rtP_of hr).kind
    unfold encP at he
    rw [leb_lt (n := p.kind.toNat) (by omega), List.singleton_append] at he
    have := hz (p.kind.toNat : Int) (by rw [he]; exact List.mem_cons_self ..)
    omega

theorem zeros_cs (W : World) (m : Nat) (hm : m ≤ 1000) : Cs (W.alloc (.cells (madeCells #[Value.int .u8 0] m) 5)) (some ⟨W.heap.size, 0, none⟩) m (List.replicate m 0) := by
  have h := own_made_of (enc := Value.int .u8) (d := (0 : Int)) W W.heap.size 5 m (Nat.le_refl _) (by omega)
  have hl : (List.replicate m (0 : Int)).length = m := List.length_replicate
  have h2 : (W.alloc (.cells (madeCells #[Value.int .u8 0] m) 5)).ownsRow W.heap.size 5 1 (.slice (some ⟨W.heap.size, 0, none⟩) (List.replicate m (0 : Int)).length m) (List.replicate m (0 : Int)).length (encs (Value.int .u8) (List.replicate m 0)) := by rw [hl]; exact h
  have hR := Kd.R_of_own (h1 := fun _ => rfl) (ok := fun _ => True) h2 (fun _ _ => trivial)
  obtain ⟨h3, h4, h5⟩ := Kd.R_reads' hR
  refine ⟨by rw [hl]; exact Nat.le_refl _, ?_⟩
  exact h5

theorem info5 : (Try.prog.info? 5).map (fun i => (i.zero, i.size, i.bytes)) = some (some (.int .u8 0), 1, 1) := by kernel_rfl

theorem dec_zero_calls (W : World) (m : Nat) (hm : m ≤ 1000) :
    Calls Try.prog 23 #[.slice (some ⟨W.heap.size, 0, none⟩) m m] (W.alloc (.cells (madeCells #[Value.int .u8 0] m) 5)) fun en w' => ∃ A1 c1 A2 c2 A3 c3, en = .returned (.tuple #[.agg #[.int .i64 0, .slice A1 0 c1, .slice A2 0 c2, .slice A3 0 c3, .int .i64 0, .int .i64 0, .int .i64 0, .int .i64 0], .int .u64 0, .int .i64 11]) ∧ Below W.heap.size W w' := by
  have h := dec_calls (zeros_cs W m hm) zeroV 0 11 (dec_zero m hm)
  rw [List.length_replicate] at h
  refine h.mono ?_
  rintro en w' ⟨A1, c1, A2, c2, A3, c3, rfl, _, hb⟩
  exact ⟨A1, c1, A2, c2, A3, c3, rfl, below_step (below_alloc (Below.refl _ _) _) hb⟩

set_option maxHeartbeats 4000000 in
set_option maxRecDepth 100000 in
theorem large (p q : PgV) (A1 : Option Addr) (c1 : Nat) (A2 : Option Addr) (c2 : Nat) (A3 : Option Addr) (c3 : Nat) (B1 : Option Addr) (e1 : Nat) (B2 : Option Addr) (e2 : Nat) (B3 : Option Addr) (e3 : Nat) (a b n : Int) (w : World) (hp : PgR w p A1 c1 A2 c2 A3 c3) (hq : PgR w q B1 e1 B2 e2 B3 e3)
    (sp sq : Bool) (h1 : smallB p = sp) (h2 : smallB q = sq) (h : sp = false ∨ (sp = true ∧ sq = false)) :
    Calls Try.prog 8 #[p.lay A1 c1 A2 c2 A3 c3, q.lay B1 e1 B2 e2 B3 e3, .int .u64 a, .int .u64 b, .int .i64 n] w fun e w' => e = .returned (.bool true) ∧ Below w.heap.size w w' := by
  have BP0 := Aside0.mk (PBox.new p A1 c1 A2 c2 A3 c3 w)
  have BQ0 := Aside0.mk (PBox.new q B1 e1 B2 e2 B3 e3 (w.alloc (.cells #[.int .i64 p.kind, .slice A1 p.keys.length c1, .slice A2 p.vals.length c2, .slice A3 p.kids.length c3, .int .i64 p.root, .int .i64 p.next, .int .i64 p.size, .int .i64 p.idle] 27)))
  have BP := Aside0.mk (BP0.out.below (below_alloc (Below.refl _ _) (.cells #[.int .i64 q.kind, .slice B1 q.keys.length e1, .slice B2 q.vals.length e2, .slice B3 q.kids.length e3, .int .i64 q.root, .int .i64 q.next, .int .i64 q.size, .int .i64 q.idle] 27)))
  have HP := Aside0.mk hp
  have HQ := Aside0.mk hq
  have S1 := Aside0.mk h1
  have S2 := Aside0.mk h2
  clear hp hq h1 h2 BP0
  go_enter Try.func8, Try.ntmps8
  go_wp2_with (go_at_call 15; refine (head_ok _).mono ?_; rintro e w1 ⟨rfl, hb1⟩; have HB := Aside0.mk (below_step (below_alloc (below_alloc (Below.refl _ _) _) _) hb1); have BP1 := Aside0.mk (BP.out.below hb1); have BQ1 := Aside0.mk (BQ0.out.below hb1); obtain ⟨_, da0, da1, da2, da3, da4, da5, da6, da7⟩ := BP1.out; clear hb1)
  refine (small_ok (HP.out.below HB.out)).mono ?_
  rintro e w2 ⟨rfl, hb2⟩
  rw [S1.out]
  have HB2 := Aside0.mk (below_step HB.out hb2)
  have BQ2 := Aside0.mk (BQ1.out.below hb2)
  clear hb2 da0 da1 da2 da3 da4 da5 da6 da7 HB BP1 BQ1
  rcases h with rfl | ⟨rfl, rfl⟩
  · go_wp2
    go_ret
    exact ⟨rfl, HB2.out⟩
  · obtain ⟨_, db0, db1, db2, db3, db4, db5, db6, db7⟩ := BQ2.out
    have lt := BQ0.out.lt
    rw [show (w.alloc (.cells #[.int .i64 p.kind, .slice A1 p.keys.length c1, .slice A2 p.vals.length c2, .slice A3 p.kids.length c3, .int .i64 p.root, .int .i64 p.next, .int .i64 p.size, .int .i64 p.idle] 27)).heap.size = w.heap.size + 1 by simp] at db0 db1 db2 db3 db4 db5 db6 db7
    go_wp2_with fail
    refine (small_ok (HQ.out.below HB2.out)).mono ?_
    rintro e w3 ⟨rfl, hb3⟩
    rw [S2.out]
    have HB3 := Aside0.mk (below_step HB2.out hb3)
    clear hb3 db0 db1 db2 db3 db4 db5 db6 db7 HB2
    go_wp2
    go_ret
    exact ⟨rfl, HB3.out⟩

/-- Two boxes, one behind the other. -/
theorem boxes (p q : PgV) (A1 : Option Addr) (c1 : Nat) (A2 : Option Addr) (c2 : Nat) (A3 : Option Addr) (c3 : Nat) (B1 : Option Addr) (e1 : Nat) (B2 : Option Addr) (e2 : Nat) (B3 : Option Addr) (e3 : Nat) (w : World) :
    PBox p A1 c1 A2 c2 A3 c3 w.heap.size ((w.alloc (.cells #[.int .i64 p.kind, .slice A1 p.keys.length c1, .slice A2 p.vals.length c2, .slice A3 p.kids.length c3, .int .i64 p.root, .int .i64 p.next, .int .i64 p.size, .int .i64 p.idle] 27)).alloc (.cells #[.int .i64 q.kind, .slice B1 q.keys.length e1, .slice B2 q.vals.length e2, .slice B3 q.kids.length e3, .int .i64 q.root, .int .i64 q.next, .int .i64 q.size, .int .i64 q.idle] 27)) ∧ PBox q B1 e1 B2 e2 B3 e3 (w.heap.size + 1) ((w.alloc (.cells #[.int .i64 p.kind, .slice A1 p.keys.length c1, .slice A2 p.vals.length c2, .slice A3 p.kids.length c3, .int .i64 p.root, .int .i64 p.next, .int .i64 p.size, .int .i64 p.idle] 27)).alloc (.cells #[.int .i64 q.kind, .slice B1 q.keys.length e1, .slice B2 q.vals.length e2, .slice B3 q.kids.length e3, .int .i64 q.root, .int .i64 q.next, .int .i64 q.size, .int .i64 q.idle] 27)) := by
  refine ⟨(PBox.new p A1 c1 A2 c2 A3 c3 w).below (below_alloc (Below.refl _ _) _), ?_⟩
  have := PBox.new q B1 e1 B2 e2 B3 e3 (w.alloc (.cells #[.int .i64 p.kind, .slice A1 p.keys.length c1, .slice A2 p.vals.length c2, .slice A3 p.kids.length c3, .int .i64 p.root, .int .i64 p.next, .int .i64 p.size, .int .i64 p.idle] 27))
  simpa using this

/-- What Encode tells, whether the page is right. -/
theorem enc_any {p : PgV} {A1 A2 A3 : Option Addr} {c1 c2 c3 : Nat} {w : World} (hR : PgR w p A1 c1 A2 c2 A3 c3) (hs : smallB p = true) (a : Nat) (ha : a < 18446744073709551616) (k : Int) (hk : k = if rightP p = true then 0 else 1) :
    Calls Try.prog 16 #[p.lay A1 c1 A2 c2 A3 c3, .int .u64 (a : Int)] w fun e w' => ∃ A c l, e = .returned (.tuple #[.slice A l.length c, .int .i64 k]) ∧ Aside0 (k = 0 → l = encP p a []) ∧ Cs w' A c l ∧ Below w.heap.size w w' := by
  unfold smallB at hs
  have hs' := of_decide_eq_true hs
  subst hk
  rcases Bool.eq_false_or_eq_true (rightP p) with h | h
  · rw [h]
    exact (enc_ok hR a ha h).mono fun _ _ ⟨A, c, e, hc, hb⟩ => ⟨A, c, _, e, ⟨fun _ => rfl⟩, hc, hb⟩
  · rw [h]
    refine (page_Encode.calls 1001 p.kind A1 c1 p.keys A2 c2 p.vals A3 c3 p.kids p.root p.next p.size p.idle (a : Int) [] 1 w hR.r1 hR.l1 hR.r2 hR.l2 hR.r3 hR.l3 (enc_no_p 1001 p a (by omega) (by omega) (by omega) (by omega) h)).mono ?_
    rintro e w' ⟨v0, rfl, hR, hB⟩
    obtain ⟨A, c, rfl, hs⟩ := cs_of hR
    exact ⟨A, c, [], rfl, ⟨fun h => by simp at h⟩, hs, hB⟩

/-- What the law tells at its end. -/
theorem fin (p q : PgV) (a b : Nat) (hp : rightP p = true) (hq : rightP q = true) :
    (((strOfNums (encP p a [])).toList == (strOfNums (encP q b [])).toList) == (sameB p q && ((a : Int) == (b : Int)))) = true := by
  have hy1 := byt_encP p a [] Byt.nil
  have hy2 := byt_encP q b [] Byt.nil
  have h : ((strOfNums (encP p a [])).toList == (strOfNums (encP q b [])).toList) = (sameB p q && ((a : Int) == (b : Int))) := by
    rw [Bool.eq_iff_iff, beq_iff_eq, toList_str hy1 hy2, Bool.and_eq_true, sameB_iff, beq_iff_eq]
    constructor
    · intro h
      obtain ⟨h1, h2⟩ := encP_inj hp hq h
      exact ⟨h1, by omega⟩
    · rintro ⟨rfl, h2⟩
      rw [show a = b by omega]
  rw [h]
  simp

def pga12t.T12 : Bool × List (List Nat × List Nat) := (true, [([], []), ([0], [0]), ([], []), ([2], [2]), ([1, 3], [1, 3]), ([], []), ([], []), ([5, 6], [5, 6]), ([7, 7], [7]), ([8], [8]), ([8], [8]), ([9, 10, 8], [8, 9, 10]), ([8, 11], [8, 11]), ([4, 12], [4, 12]), ([13, 8, 0, 1, 2, 3, 4, 5, 6, 7, 8, 9, 10, 11, 12, 13], [13])])
def pga12t.B12 : List Nat := [0, 1, 0, 4, 15, 0, 0, 96, 224, 480, 480, 2016, 4064, 8191, 16383]
theorem pga12t.tab12 : rtab .any (opsOf Try.f8 12) = pga12t.T12 := by kernel_rfl
theorem pga12t.bits12 : waitsOk pga12t.T12.2 pga12t.B12 = true := by kernel_rfl
def pga12f.T12 : Bool × List (List Nat × List Nat) := (true, [([], []), ([0], [0]), ([], []), ([2], [2]), ([1, 3], [1, 3]), ([], []), ([], []), ([5, 6], [5, 6]), ([7, 7], [7]), ([8], [8]), ([8], [8]), ([9, 10, 8], [8, 9, 10]), ([8, 11], [8, 11]), ([4, 12], [4, 12]), ([13, 8, 0, 1, 2, 3, 4, 5, 6, 7, 8, 9, 10, 11, 12, 13], [13])])
def pga12f.B12 : List Nat := [0, 1, 0, 4, 15, 0, 0, 96, 224, 480, 480, 2016, 4064, 8191, 16383]
theorem pga12f.tab12 : rtab .any (opsOf Try.f8 12) = pga12f.T12 := by kernel_rfl
theorem pga12f.bits12 : waitsOk pga12f.T12.2 pga12f.B12 = true := by kernel_rfl
set_option maxHeartbeats 4000000 in
set_option maxRecDepth 100000 in
theorem small (p q : PgV) (A1 : Option Addr) (c1 : Nat) (A2 : Option Addr) (c2 : Nat) (A3 : Option Addr) (c3 : Nat) (B1 : Option Addr) (e1 : Nat) (B2 : Option Addr) (e2 : Nat) (B3 : Option Addr) (e3 : Nat) (na nb : Nat) (n : Int) (w : World) (hp : PgR w p A1 c1 A2 c2 A3 c3) (hq : PgR w q B1 e1 B2 e2 B3 e3)
    (ha : na < 18446744073709551616) (hb : nb < 18446744073709551616) (h1 : smallB p = true) (h2 : smallB q = true) (ka kb : Int) (hka : ka = if rightP p = true then 0 else 1) (hkb : kb = if rightP q = true then 0 else 1)
    (J : (ka != 0) = true ∨ (ka != 0) = false ∧ (kb != 0) = true ∨ (ka != 0) = false ∧ (kb != 0) = false) :
    Calls Try.prog 8 #[p.lay A1 c1 A2 c2 A3 c3, q.lay B1 e1 B2 e2 B3 e3, .int .u64 (na : Int), .int .u64 (nb : Int), .int .i64 n] w fun e w' => e = .returned (.bool true) ∧ Below w.heap.size w w' := by
  have BB := boxes p q A1 c1 A2 c2 A3 c3 B1 e1 B2 e2 B3 e3 w
  have BP0 := Aside0.mk BB.1
  have BQ0 := Aside0.mk BB.2
  have HP := Aside0.mk hp
  have HQ := Aside0.mk hq
  have S1 := Aside0.mk h1
  have S2 := Aside0.mk h2
  have HA := Aside0.mk ha
  have HBb := Aside0.mk hb
  have EA := Aside0.mk hka
  have EB := Aside0.mk hkb
  obtain ⟨m, hm, hmm⟩ := and_mask n 511 (by omega)
  rw [show ((511 : Nat) : Int) = 511 from rfl] at hm
  have hmk := print_make (P := Try.prog) 28 5 .u8 1 Try.underlying28 info5 (by omega) m (by omega)
  clear hp hq h1 h2 ha hb hka hkb BB
  go_enter Try.func8, Try.ntmps8
  go_wp2_with (go_at_call 15; refine (head_ok _).mono ?_; rintro e w1 ⟨rfl, hb1⟩; have HB := Aside0.mk (below_step (below_alloc (below_alloc (Below.refl _ _) _) _) hb1); have BP1 := Aside0.mk (BP0.out.below hb1); have BQ1 := Aside0.mk (BQ0.out.below hb1); obtain ⟨_, da0, da1, da2, da3, da4, da5, da6, da7⟩ := BP1.out; clear hb1)
  refine (small_ok (HP.out.below HB.out)).mono ?_
  rintro e w2 ⟨rfl, hb2⟩
  rw [S1.out]
  have HB2 := Aside0.mk (below_step HB.out hb2)
  have BP2 := Aside0.mk (BP1.out.below hb2)
  have BQ2 := Aside0.mk (BQ1.out.below hb2)
  clear hb2 da0 da1 da2 da3 da4 da5 da6 da7 HB BP1 BQ1
  obtain ⟨_, db0, db1, db2, db3, db4, db5, db6, db7⟩ := BQ2.out
  go_wp2_with fail
  refine (small_ok (HQ.out.below HB2.out)).mono ?_
  rintro e w3 ⟨rfl, hb3⟩
  rw [S2.out]
  have HB3 := Aside0.mk (below_step HB2.out hb3)
  have BP3 := Aside0.mk (BP2.out.below hb3)
  have BQ3 := Aside0.mk (BQ2.out.below hb3)
  clear hb3 db0 db1 db2 db3 db4 db5 db6 db7 HB2 BP2 BQ2
  obtain ⟨_, da0, da1, da2, da3, da4, da5, da6, da7⟩ := BP3.out
  go_wp2_with fail
  refine (enc_any (HP.out.below HB3.out) S1.out na HA.out ka EA.out).mono ?_
  rintro e w4 ⟨X, cx, lx, rfl, hlx, hpx, hb4⟩
  have HB4 := Aside0.mk (below_step HB3.out hb4)
  have BP4 := Aside0.mk (BP3.out.below hb4)
  have BQ4 := Aside0.mk (BQ3.out.below hb4)
  have PX := Aside0.mk hpx
  clear hb4 hpx da0 da1 da2 da3 da4 da5 da6 da7 HB3 BP3 BQ3
  obtain ⟨_, db0, db1, db2, db3, db4, db5, db6, db7⟩ := BQ4.out
  go_wp2_with fail
  refine (enc_any (HQ.out.below HB4.out) S2.out nb HBb.out kb EB.out).mono ?_
  rintro e w5 ⟨Y, cy, ly, rfl, hly, hpy, hb5⟩
  have HB5 := Aside0.mk (below_step HB4.out hb5)
  have BP5 := Aside0.mk (BP4.out.below hb5)
  have BQ5 := Aside0.mk (BQ4.out.below hb5)
  have PX5 := Aside0.mk (PX.out.step hb5)
  have PY5 := Aside0.mk hpy
  clear hb5 hpy db0 db1 db2 db3 db4 db5 db6 db7 HB4 BP4 BQ4 PX
  go_wp2_with fail
  refine (dec_zero_calls _ m (by omega)).mono ?_
  rintro e w6 ⟨Z1, z1, Z2, z2, Z3, z3, rfl, hb6⟩
  have HB6 := Aside0.mk (below_step HB5.out hb6)
  have BP6 := Aside0.mk (BP5.out.below hb6)
  have BQ6 := Aside0.mk (BQ5.out.below hb6)
  have PX6 := Aside0.mk (PX5.out.step hb6)
  have PY6 := Aside0.mk (PY5.out.step hb6)
  clear hb6 HB5 BP5 BQ5 PX5 PY5
  rcases J with J1 | ⟨J1, J2⟩ | ⟨J1, J2⟩
  · go_wp2
    go_ret
    exact ⟨rfl, below_alloc HB6.out _⟩
  · go_wp2
    go_ret
    exact ⟨rfl, below_alloc HB6.out _⟩
  · go_upto_region 12 with fail
    obtain ⟨w7, hw7⟩ : ∃ w7, w7 = w6.alloc (.cells #[.int .i64 0, .slice Z1 0 z1, .slice Z2 0 z2, .slice Z3 0 z3, .int .i64 0, .int .i64 0, .int .i64 0, .int .i64 0] 27) := ⟨_, rfl⟩
    have HB := Aside0.mk (below_alloc HB6.out (.cells #[.int .i64 0, .slice Z1 0 z1, .slice Z2 0 z2, .slice Z3 0 z3, .int .i64 0, .int .i64 0, .int .i64 0, .int .i64 0] 27))
    have BP := Aside0.mk (BP6.out.below (below_alloc (Below.refl _ _) (.cells #[.int .i64 0, .slice Z1 0 z1, .slice Z2 0 z2, .slice Z3 0 z3, .int .i64 0, .int .i64 0, .int .i64 0, .int .i64 0] 27)))
    have BQ := Aside0.mk (BQ6.out.below (below_alloc (Below.refl _ _) (.cells #[.int .i64 0, .slice Z1 0 z1, .slice Z2 0 z2, .slice Z3 0 z3, .int .i64 0, .int .i64 0, .int .i64 0, .int .i64 0] 27)))
    have PX := Aside0.mk (PX6.out.step (below_alloc (Below.refl _ _) (.cells #[.int .i64 0, .slice Z1 0 z1, .slice Z2 0 z2, .slice Z3 0 z3, .int .i64 0, .int .i64 0, .int .i64 0, .int .i64 0] 27)))
    have PY := Aside0.mk (PY6.out.step (below_alloc (Below.refl _ _) (.cells #[.int .i64 0, .slice Z1 0 z1, .slice Z2 0 z2, .slice Z3 0 z3, .int .i64 0, .int .i64 0, .int .i64 0, .int .i64 0] 27)))
    rw [← hw7] at HB BP BQ PX PY ⊢
    have hX : lx = encP p na [] := hlx.out (by simpa using J1)
    have hY : ly = encP q nb [] := hly.out (by simpa using J2)
    have hrp : rightP p = true := by
      have := EA.out
      rcases Bool.eq_false_or_eq_true (rightP p) with h | h
      · exact h
      · rw [h] at this; rw [this] at J1; simp at J1
    have hrq : rightP q = true := by
      have := EB.out
      rcases Bool.eq_false_or_eq_true (rightP q) with h | h
      · exact h
      · rw [h] at this; rw [this] at J2; simp at J2
    have hfin := Aside0.mk (fin p q na nb hrp hrq)
    rw [← hX, ← hY] at hfin
    have hsm := of_decide_eq_true (show decide (p.keys.length ≤ 20 ∧ p.vals.length ≤ 20 ∧ p.kids.length ≤ 20) = true from S1.out)
    have SM0 := fun W (hB : Below w.heap.size w W) => same_ok (HP.out.below hB) (HQ.out.below hB) (by omega) (by omega) (by omega)
    clear hw7 HB6 BP6 BQ6 PX6 PY6 hsm hX hY hrp hrq hlx hly EA EB hmk hm J1 J2
    rcases Bool.eq_false_or_eq_true (sameB p q) with hs | hs
    · rw [hs] at SM0 hfin
      have SM := Aside0.mk SM0
      clear SM0 hs
      refine start_ (n := 15) (S := fun w' => True) (ds := []) #[false, false, false, false, false, false, false, false, false, false, false, false, false, false, false] (by kernel_rfl) rfl rfl trivial (fun hHeld => ?_)
      refine with_tabW pga12t.tab12 pga12t.bits12 (fun HT_ HW_ => ?_)
      have n0 := Aside0.mk (below_step HB.out (below_drew (Below.refl _ _)))
      have n1 := Aside0.mk (BP.out.below (below_drew (Below.refl _ _)))
      have n2 := Aside0.mk (BQ.out.below (below_drew (Below.refl _ _)))
      have n3 := Aside0.mk (PX.out.step (below_drew (Below.refl _ _)))
      have n4 := Aside0.mk (PY.out.step (below_drew (Below.refl _ _)))
      clear HB BP BQ PX PY
      generalize w7.drew = wd at n0 n1 n2 n3 n4 hHeld ⊢
      have HB := n0
      have BP := n1
      have BQ := n2
      have PX := n3
      have PY := n4
      clear n0 n1 n2 n3 n4 hHeld
      refine inv_at [0, 1, 2, 3, 4, 5, 6, 7, 8, 9, 10, 11, 12, 13, 14] (fun a0_ b a w' => a = putSel a0_ b [(0, 56, .slice X lx.length cx), (1, 57, .string (strOfNums lx)), (2, 58, .slice Y ly.length cy), (3, 59, .string (strOfNums ly)), (4, 60, .bool ((strOfNums lx).toList == (strOfNums ly).toList)), (5, 61, .agg #[.int .i64 p.kind, .slice A1 p.keys.length c1, .slice A2 p.vals.length c2, .slice A3 p.kids.length c3, .int .i64 p.root, .int .i64 p.next, .int .i64 p.size, .int .i64 p.idle]), (6, 62, .agg #[.int .i64 q.kind, .slice B1 q.keys.length e1, .slice B2 q.vals.length e2, .slice B3 q.kids.length e3, .int .i64 q.root, .int .i64 q.next, .int .i64 q.size, .int .i64 q.idle]), (7, 63, .bool true), (8, 64, .bool true), (9, 65, .int .u64 (na : Int)), (10, 66, .int .u64 (nb : Int)), (11, 67, .bool ((na : Int) == (nb : Int))), (12, 68, .bool ((na : Int) == (nb : Int))), (13, 69, .bool (((strOfNums lx).toList == (strOfNums ly).toList) == ((na : Int) == (nb : Int)))), (14, 10, .bool (((strOfNums lx).toList == (strOfNums ly).toList) == ((na : Int) == (nb : Int))))] ∧ (Below w.heap.size w w') ∧ (PBox p A1 c1 A2 c2 A3 c3 w.heap.size w') ∧ (PBox q B1 e1 B2 e2 B3 e3 (w.heap.size + 1) w') ∧ (Cs w' X cx lx) ∧ (Cs w' Y cy ly)) HT_.out HW_.out (by kernel_rfl) (by kernel_rfl) ?_ ?_ ?_
      · exact ⟨by simp only [putSel, Bool.false_eq_true, if_false], HB.out, BP.out, BQ.out, PX.out, PY.out⟩
      · skip
        clear BP BQ HB PX PY
        refine steps_cons ?_ ?_
        · rintro b a w' ⟨ha, Q_HB, Q_BP, Q_BQ, Q_PX, Q_PY⟩ hb_ hon hoff
          refine ⟨_, rfl, fun K hK => ?_⟩
          have e11 : a.tmps[11]? = some (.slice X lx.length cx) := by rw [ha]; exact (putSel_off rfl).trans rfl
          replace ha := Aside0.mk ha
          have HB := Aside0.mk Q_HB
          have BP := Aside0.mk Q_BP
          have BQ := Aside0.mk Q_BQ
          have PX := Aside0.mk Q_PX
          have PY := Aside0.mk Q_PY
          refine value_ (w1 := w') (v := .slice X lx.length cx) (by rfl) rfl ?_ ?_
          · go_simp
            (try simp only [i64_w])
            try rfl
          refine hK.out _ _ ⟨(by rw [ha.out]; exact putSel_upk 0 hb_ rfl rfl rfl), Q_HB, Q_BP, Q_BQ, Q_PX, Q_PY⟩
        refine steps_cons ?_ ?_
        · rintro b a w' ⟨ha, Q_HB, Q_BP, Q_BQ, Q_PX, Q_PY⟩ hb_ hon hoff
          refine ⟨_, rfl, fun K hK => ?_⟩
          have e56 : a.tmps[56]? = some (.slice X lx.length cx) := by rw [ha]; exact putSel_on (e := (0, 56, .slice X lx.length cx)) 0 rfl rfl (hon 0 (by kernel_rfl)) rfl
          replace ha := Aside0.mk ha
          have HB := Aside0.mk Q_HB
          have BP := Aside0.mk Q_BP
          have BQ := Aside0.mk Q_BQ
          have PX := Aside0.mk Q_PX
          have PY := Aside0.mk Q_PY
          have hcv_ := PX.out.conv (Below.refl _ _)
          refine value_ (w1 := w') (v := .string (strOfNums lx)) (by rfl) rfl ?_ ?_
          · go_simp
            (try simp only [i64_w])
            try rfl
          refine hK.out _ _ ⟨(by rw [ha.out]; exact putSel_upk 1 hb_ rfl rfl rfl), Q_HB, Q_BP, Q_BQ, Q_PX, Q_PY⟩
        refine steps_cons ?_ ?_
        · rintro b a w' ⟨ha, Q_HB, Q_BP, Q_BQ, Q_PX, Q_PY⟩ hb_ hon hoff
          refine ⟨_, rfl, fun K hK => ?_⟩
          have e13 : a.tmps[13]? = some (.slice Y ly.length cy) := by rw [ha]; exact (putSel_off rfl).trans rfl
          replace ha := Aside0.mk ha
          have HB := Aside0.mk Q_HB
          have BP := Aside0.mk Q_BP
          have BQ := Aside0.mk Q_BQ
          have PX := Aside0.mk Q_PX
          have PY := Aside0.mk Q_PY
          refine value_ (w1 := w') (v := .slice Y ly.length cy) (by rfl) rfl ?_ ?_
          · go_simp
            (try simp only [i64_w])
            try rfl
          refine hK.out _ _ ⟨(by rw [ha.out]; exact putSel_upk 2 hb_ rfl rfl rfl), Q_HB, Q_BP, Q_BQ, Q_PX, Q_PY⟩
        refine steps_cons ?_ ?_
        · rintro b a w' ⟨ha, Q_HB, Q_BP, Q_BQ, Q_PX, Q_PY⟩ hb_ hon hoff
          refine ⟨_, rfl, fun K hK => ?_⟩
          have e58 : a.tmps[58]? = some (.slice Y ly.length cy) := by rw [ha]; exact putSel_on (e := (2, 58, .slice Y ly.length cy)) 2 rfl rfl (hon 2 (by kernel_rfl)) rfl
          replace ha := Aside0.mk ha
          have HB := Aside0.mk Q_HB
          have BP := Aside0.mk Q_BP
          have BQ := Aside0.mk Q_BQ
          have PX := Aside0.mk Q_PX
          have PY := Aside0.mk Q_PY
          have hcv_ := PY.out.conv (Below.refl _ _)
          refine value_ (w1 := w') (v := .string (strOfNums ly)) (by rfl) rfl ?_ ?_
          · go_simp
            (try simp only [i64_w])
            try rfl
          refine hK.out _ _ ⟨(by rw [ha.out]; exact putSel_upk 3 hb_ rfl rfl rfl), Q_HB, Q_BP, Q_BQ, Q_PX, Q_PY⟩
        refine steps_cons ?_ ?_
        · rintro b a w' ⟨ha, Q_HB, Q_BP, Q_BQ, Q_PX, Q_PY⟩ hb_ hon hoff
          refine ⟨_, rfl, fun K hK => ?_⟩
          have e57 : a.tmps[57]? = some (.string (strOfNums lx)) := by rw [ha]; exact putSel_on (e := (1, 57, .string (strOfNums lx))) 1 rfl rfl (hon 1 (by kernel_rfl)) rfl
          have e59 : a.tmps[59]? = some (.string (strOfNums ly)) := by rw [ha]; exact putSel_on (e := (3, 59, .string (strOfNums ly))) 3 rfl rfl (hon 3 (by kernel_rfl)) rfl
          replace ha := Aside0.mk ha
          have HB := Aside0.mk Q_HB
          have BP := Aside0.mk Q_BP
          have BQ := Aside0.mk Q_BQ
          have PX := Aside0.mk Q_PX
          have PY := Aside0.mk Q_PY
          refine value_ (w1 := w') (v := .bool ((strOfNums lx).toList == (strOfNums ly).toList)) (by rfl) rfl ?_ ?_
          · go_simp
            (try simp only [i64_w])
            try rfl
          refine hK.out _ _ ⟨(by rw [ha.out]; exact putSel_upk 4 hb_ rfl rfl rfl), Q_HB, Q_BP, Q_BQ, Q_PX, Q_PY⟩
        refine steps_cons ?_ ?_
        · rintro b a w' ⟨ha, Q_HB, Q_BP, Q_BQ, Q_PX, Q_PY⟩ hb_ hon hoff
          refine ⟨_, rfl, fun K hK => ?_⟩
          have e5 : a.tmps[5]? = some (.pointer (some ⟨w.heap.size, 0, none⟩)) := by rw [ha]; exact (putSel_off rfl).trans rfl
          replace ha := Aside0.mk ha
          have HB := Aside0.mk Q_HB
          have BP := Aside0.mk Q_BP
          have BQ := Aside0.mk Q_BQ
          have PX := Aside0.mk Q_PX
          have PY := Aside0.mk Q_PY
          obtain ⟨_, d0, d1, d2, d3, d4, d5, d6, d7⟩ := BP.out
          refine value_ (w1 := w') (v := .agg #[.int .i64 p.kind, .slice A1 p.keys.length c1, .slice A2 p.vals.length c2, .slice A3 p.kids.length c3, .int .i64 p.root, .int .i64 p.next, .int .i64 p.size, .int .i64 p.idle]) (by rfl) rfl ?_ ?_
          · go_simp
            (try simp only [i64_w])
            try rfl
          refine hK.out _ _ ⟨(by rw [ha.out]; exact putSel_upk 5 hb_ rfl rfl rfl), Q_HB, Q_BP, Q_BQ, Q_PX, Q_PY⟩
        refine steps_cons ?_ ?_
        · rintro b a w' ⟨ha, Q_HB, Q_BP, Q_BQ, Q_PX, Q_PY⟩ hb_ hon hoff
          refine ⟨_, rfl, fun K hK => ?_⟩
          have e6 : a.tmps[6]? = some (.pointer (some ⟨w.heap.size + 1, 0, none⟩)) := by rw [ha]; exact (putSel_off rfl).trans rfl
          replace ha := Aside0.mk ha
          have HB := Aside0.mk Q_HB
          have BP := Aside0.mk Q_BP
          have BQ := Aside0.mk Q_BQ
          have PX := Aside0.mk Q_PX
          have PY := Aside0.mk Q_PY
          obtain ⟨_, d0, d1, d2, d3, d4, d5, d6, d7⟩ := BQ.out
          refine value_ (w1 := w') (v := .agg #[.int .i64 q.kind, .slice B1 q.keys.length e1, .slice B2 q.vals.length e2, .slice B3 q.kids.length e3, .int .i64 q.root, .int .i64 q.next, .int .i64 q.size, .int .i64 q.idle]) (by rfl) rfl ?_ ?_
          · go_simp
            (try simp only [i64_w])
            try rfl
          refine hK.out _ _ ⟨(by rw [ha.out]; exact putSel_upk 6 hb_ rfl rfl rfl), Q_HB, Q_BP, Q_BQ, Q_PX, Q_PY⟩
        refine steps_cons ?_ ?_
        · rintro b a w' ⟨ha, Q_HB, Q_BP, Q_BQ, Q_PX, Q_PY⟩ hb_ hon hoff
          refine ⟨_, rfl, fun K hK => ?_⟩
          have e61 : a.tmps[61]? = some (.agg #[.int .i64 p.kind, .slice A1 p.keys.length c1, .slice A2 p.vals.length c2, .slice A3 p.kids.length c3, .int .i64 p.root, .int .i64 p.next, .int .i64 p.size, .int .i64 p.idle]) := by rw [ha]; exact putSel_on (e := (5, 61, .agg #[.int .i64 p.kind, .slice A1 p.keys.length c1, .slice A2 p.vals.length c2, .slice A3 p.kids.length c3, .int .i64 p.root, .int .i64 p.next, .int .i64 p.size, .int .i64 p.idle])) 5 rfl rfl (hon 5 (by kernel_rfl)) rfl
          have e62 : a.tmps[62]? = some (.agg #[.int .i64 q.kind, .slice B1 q.keys.length e1, .slice B2 q.vals.length e2, .slice B3 q.kids.length e3, .int .i64 q.root, .int .i64 q.next, .int .i64 q.size, .int .i64 q.idle]) := by rw [ha]; exact putSel_on (e := (6, 62, .agg #[.int .i64 q.kind, .slice B1 q.keys.length e1, .slice B2 q.vals.length e2, .slice B3 q.kids.length e3, .int .i64 q.root, .int .i64 q.next, .int .i64 q.size, .int .i64 q.idle])) 6 rfl rfl (hon 6 (by kernel_rfl)) rfl
          replace ha := Aside0.mk ha
          have HB := Aside0.mk Q_HB
          have BP := Aside0.mk Q_BP
          have BQ := Aside0.mk Q_BQ
          have PX := Aside0.mk Q_PX
          have PY := Aside0.mk Q_PY
          refine goes_ Try.func20 (by kernel_rfl) rfl #[.agg #[.int .i64 p.kind, .slice A1 p.keys.length c1, .slice A2 p.vals.length c2, .slice A3 p.kids.length c3, .int .i64 p.root, .int .i64 p.next, .int .i64 p.size, .int .i64 p.idle], .agg #[.int .i64 q.kind, .slice B1 q.keys.length e1, .slice B2 q.vals.length e2, .slice B3 q.kids.length e3, .int .i64 q.root, .int .i64 q.next, .int .i64 q.size, .int .i64 q.idle]] (by rfl) rfl rfl (by first | (simp only [List.map_toArray, List.map_cons, List.map_nil, Act.eval, Array.getD_eq_getD_getElem?, Option.getD_some, e61, e62]; done) | (simp only [List.map_toArray, List.map_cons, List.map_nil, Act.eval, Array.getD_eq_getD_getElem?, Option.getD_some, e61, e62]; rfl)) ?_
          refine (SM.out _ HB.out).mono ?_
          rintro e_ wn_ ⟨rfl, hB_⟩
          refine ⟨_, rfl, ?_⟩
          refine hK.out _ _ ⟨(by rw [ha.out]; exact putSel_upk 7 hb_ rfl rfl rfl), (below_step HB.out hB_), (BP.out.below hB_), (BQ.out.below hB_), (PX.out.step hB_), (PY.out.step hB_)⟩
        refine steps_cons ?_ ?_
        · rintro b a w' ⟨ha, Q_HB, Q_BP, Q_BQ, Q_PX, Q_PY⟩ hb_ hon hoff
          refine ⟨_, rfl, fun K hK => ?_⟩
          have e63 : a.tmps[63]? = some (.bool true) := by rw [ha]; exact putSel_on (e := (7, 63, .bool true)) 7 rfl rfl (hon 7 (by kernel_rfl)) rfl
          replace ha := Aside0.mk ha
          have HB := Aside0.mk Q_HB
          have BP := Aside0.mk Q_BP
          have BQ := Aside0.mk Q_BQ
          have PX := Aside0.mk Q_PX
          have PY := Aside0.mk Q_PY
          refine value_ (w1 := w') (v := .bool true) (by rfl) rfl ?_ ?_
          · go_simp
            (try simp only [i64_w])
            try rfl
          refine hK.out _ _ ⟨(by rw [ha.out]; exact putSel_upk 8 hb_ rfl rfl rfl), Q_HB, Q_BP, Q_BQ, Q_PX, Q_PY⟩
        refine steps_cons ?_ ?_
        · rintro b a w' ⟨ha, Q_HB, Q_BP, Q_BQ, Q_PX, Q_PY⟩ hb_ hon hoff
          refine ⟨_, rfl, fun K hK => ?_⟩
          have e2 : a.tmps[2]? = some (.int .u64 (na : Int)) := by rw [ha]; exact (putSel_off rfl).trans rfl
          have e64 : a.tmps[64]? = some (.bool true) := by rw [ha]; exact putSel_on (e := (8, 64, .bool true)) 8 rfl rfl (hon 8 (by kernel_rfl)) rfl
          replace ha := Aside0.mk ha
          have HB := Aside0.mk Q_HB
          have BP := Aside0.mk Q_BP
          have BQ := Aside0.mk Q_BQ
          have PX := Aside0.mk Q_PX
          have PY := Aside0.mk Q_PY
          refine value_ (w1 := w') (v := .int .u64 (na : Int)) (wanted_on rfl rfl rfl (e64.trans (by first | rfl | (simp [*]; done)))) rfl ?_ ?_
          · go_simp
            (try simp only [i64_w])
            try rfl
          refine hK.out _ _ ⟨(by rw [ha.out]; exact putSel_upk 9 hb_ rfl rfl rfl), Q_HB, Q_BP, Q_BQ, Q_PX, Q_PY⟩
        refine steps_cons ?_ ?_
        · rintro b a w' ⟨ha, Q_HB, Q_BP, Q_BQ, Q_PX, Q_PY⟩ hb_ hon hoff
          refine ⟨_, rfl, fun K hK => ?_⟩
          have e3 : a.tmps[3]? = some (.int .u64 (nb : Int)) := by rw [ha]; exact (putSel_off rfl).trans rfl
          have e64 : a.tmps[64]? = some (.bool true) := by rw [ha]; exact putSel_on (e := (8, 64, .bool true)) 8 rfl rfl (hon 8 (by kernel_rfl)) rfl
          replace ha := Aside0.mk ha
          have HB := Aside0.mk Q_HB
          have BP := Aside0.mk Q_BP
          have BQ := Aside0.mk Q_BQ
          have PX := Aside0.mk Q_PX
          have PY := Aside0.mk Q_PY
          refine value_ (w1 := w') (v := .int .u64 (nb : Int)) (wanted_on rfl rfl rfl (e64.trans (by first | rfl | (simp [*]; done)))) rfl ?_ ?_
          · go_simp
            (try simp only [i64_w])
            try rfl
          refine hK.out _ _ ⟨(by rw [ha.out]; exact putSel_upk 10 hb_ rfl rfl rfl), Q_HB, Q_BP, Q_BQ, Q_PX, Q_PY⟩
        refine steps_cons ?_ ?_
        · rintro b a w' ⟨ha, Q_HB, Q_BP, Q_BQ, Q_PX, Q_PY⟩ hb_ hon hoff
          refine ⟨_, rfl, fun K hK => ?_⟩
          have e65 : a.tmps[65]? = some (.int .u64 (na : Int)) := by rw [ha]; exact putSel_on (e := (9, 65, .int .u64 (na : Int))) 9 rfl rfl (hon 9 (by kernel_rfl)) rfl
          have e66 : a.tmps[66]? = some (.int .u64 (nb : Int)) := by rw [ha]; exact putSel_on (e := (10, 66, .int .u64 (nb : Int))) 10 rfl rfl (hon 10 (by kernel_rfl)) rfl
          have e64 : a.tmps[64]? = some (.bool true) := by rw [ha]; exact putSel_on (e := (8, 64, .bool true)) 8 rfl rfl (hon 8 (by kernel_rfl)) rfl
          replace ha := Aside0.mk ha
          have HB := Aside0.mk Q_HB
          have BP := Aside0.mk Q_BP
          have BQ := Aside0.mk Q_BQ
          have PX := Aside0.mk Q_PX
          have PY := Aside0.mk Q_PY
          refine value_ (w1 := w') (v := .bool ((na : Int) == (nb : Int))) (wanted_on rfl rfl rfl (e64.trans (by first | rfl | (simp [*]; done)))) rfl ?_ ?_
          · go_simp
            (try simp only [i64_w])
            try rfl
          refine hK.out _ _ ⟨(by rw [ha.out]; exact putSel_upk 11 hb_ rfl rfl rfl), Q_HB, Q_BP, Q_BQ, Q_PX, Q_PY⟩
        refine steps_cons ?_ ?_
        · rintro b a w' ⟨ha, Q_HB, Q_BP, Q_BQ, Q_PX, Q_PY⟩ hb_ hon hoff
          refine ⟨_, rfl, fun K hK => ?_⟩
          have e64 : a.tmps[64]? = some (.bool true) := by rw [ha]; exact putSel_on (e := (8, 64, .bool true)) 8 rfl rfl (hon 8 (by kernel_rfl)) rfl
          have e67 : a.tmps[67]? = some (.bool ((na : Int) == (nb : Int))) := by rw [ha]; exact putSel_on (e := (11, 67, .bool ((na : Int) == (nb : Int)))) 11 rfl rfl (hon 11 (by kernel_rfl)) rfl
          replace ha := Aside0.mk ha
          have HB := Aside0.mk Q_HB
          have BP := Aside0.mk Q_BP
          have BQ := Aside0.mk Q_BQ
          have PX := Aside0.mk Q_PX
          have PY := Aside0.mk Q_PY
          refine value_ (w1 := w') (v := .bool ((na : Int) == (nb : Int))) (by rfl) rfl ?_ ?_
          · go_simp
            (try simp only [i64_w])
            try rfl
          refine hK.out _ _ ⟨(by rw [ha.out]; exact putSel_upk 12 hb_ rfl rfl rfl), Q_HB, Q_BP, Q_BQ, Q_PX, Q_PY⟩
        refine steps_cons ?_ ?_
        · rintro b a w' ⟨ha, Q_HB, Q_BP, Q_BQ, Q_PX, Q_PY⟩ hb_ hon hoff
          refine ⟨_, rfl, fun K hK => ?_⟩
          have e60 : a.tmps[60]? = some (.bool ((strOfNums lx).toList == (strOfNums ly).toList)) := by rw [ha]; exact putSel_on (e := (4, 60, .bool ((strOfNums lx).toList == (strOfNums ly).toList))) 4 rfl rfl (hon 4 (by kernel_rfl)) rfl
          have e68 : a.tmps[68]? = some (.bool ((na : Int) == (nb : Int))) := by rw [ha]; exact putSel_on (e := (12, 68, .bool ((na : Int) == (nb : Int)))) 12 rfl rfl (hon 12 (by kernel_rfl)) rfl
          replace ha := Aside0.mk ha
          have HB := Aside0.mk Q_HB
          have BP := Aside0.mk Q_BP
          have BQ := Aside0.mk Q_BQ
          have PX := Aside0.mk Q_PX
          have PY := Aside0.mk Q_PY
          refine value_ (w1 := w') (v := .bool (((strOfNums lx).toList == (strOfNums ly).toList) == ((na : Int) == (nb : Int)))) (by rfl) rfl ?_ ?_
          · go_simp
            (try simp only [i64_w])
            try rfl
          refine hK.out _ _ ⟨(by rw [ha.out]; exact putSel_upk 13 hb_ rfl rfl rfl), Q_HB, Q_BP, Q_BQ, Q_PX, Q_PY⟩
        refine steps_cons ?_ ?_
        · rintro b a w' ⟨ha, Q_HB, Q_BP, Q_BQ, Q_PX, Q_PY⟩ hb_ hon hoff
          refine ⟨_, rfl, fun K hK => ?_⟩
          have e69 : a.tmps[69]? = some (.bool (((strOfNums lx).toList == (strOfNums ly).toList) == ((na : Int) == (nb : Int)))) := by rw [ha]; exact putSel_on (e := (13, 69, .bool (((strOfNums lx).toList == (strOfNums ly).toList) == ((na : Int) == (nb : Int))))) 13 rfl rfl (hon 13 (by kernel_rfl)) rfl
          replace ha := Aside0.mk ha
          have HB := Aside0.mk Q_HB
          have BP := Aside0.mk Q_BP
          have BQ := Aside0.mk Q_BQ
          have PX := Aside0.mk Q_PX
          have PY := Aside0.mk Q_PY
          refine value_ (w1 := w') (v := .bool (((strOfNums lx).toList == (strOfNums ly).toList) == ((na : Int) == (nb : Int)))) (by rfl) rfl ?_ ?_
          · go_simp
            (try simp only [i64_w])
            try rfl
          refine hK.out _ _ ⟨(by rw [ha.out]; exact putSel_upk 14 hb_ rfl rfl rfl), Q_HB, Q_BP, Q_BQ, Q_PX, Q_PY⟩
        exact steps_nil
      rintro b a w' hall ⟨ha, Q_HB, Q_BP, Q_BQ, Q_PX, Q_PY⟩
      clear BP BQ HB PX PY
      have hb0_ := hall 0 (by kernel_rfl)
      have hb1_ := hall 1 (by kernel_rfl)
      have hb2_ := hall 2 (by kernel_rfl)
      have hb3_ := hall 3 (by kernel_rfl)
      have hb4_ := hall 4 (by kernel_rfl)
      have hb5_ := hall 5 (by kernel_rfl)
      have hb6_ := hall 6 (by kernel_rfl)
      have hb7_ := hall 7 (by kernel_rfl)
      have hb8_ := hall 8 (by kernel_rfl)
      have hb9_ := hall 9 (by kernel_rfl)
      have hb10_ := hall 10 (by kernel_rfl)
      have hb11_ := hall 11 (by kernel_rfl)
      have hb12_ := hall 12 (by kernel_rfl)
      have hb13_ := hall 13 (by kernel_rfl)
      have hb14_ := hall 14 (by kernel_rfl)
      subst ha
      simp only [putSel, hb0_, hb1_, hb2_, hb3_, hb4_, hb5_, hb6_, hb7_, hb8_, hb9_, hb10_, hb11_, hb12_, hb13_, hb14_, if_true, Act.put, List.setIfInBounds_toArray, List.set_cons_zero, List.set_cons_succ]
      have HB := Aside0.mk Q_HB
      clear Q_HB
      have BP := Aside0.mk Q_BP
      clear Q_BP
      have BQ := Aside0.mk Q_BQ
      clear Q_BQ
      have PX := Aside0.mk Q_PX
      clear Q_PX
      have PY := Aside0.mk Q_PY
      clear Q_PY
      clear hall hb0_ hb1_ hb2_ hb3_ hb4_ hb5_ hb6_ hb7_ hb8_ hb9_ hb10_ hb11_ hb12_ hb13_ hb14_
      go_wp2
      go_ret
      exact ⟨by have h := hfin.out; rw [Bool.true_and] at h; rw [h]; rfl, HB.out⟩
    · rw [hs] at SM0 hfin
      have SM := Aside0.mk SM0
      clear SM0 hs
      refine start_ (n := 15) (S := fun w' => True) (ds := []) #[false, false, false, false, false, false, false, false, false, false, false, false, false, false, false] (by kernel_rfl) rfl rfl trivial (fun hHeld => ?_)
      refine with_tabW pga12f.tab12 pga12f.bits12 (fun HT_ HW_ => ?_)
      have n0 := Aside0.mk (below_step HB.out (below_drew (Below.refl _ _)))
      have n1 := Aside0.mk (BP.out.below (below_drew (Below.refl _ _)))
      have n2 := Aside0.mk (BQ.out.below (below_drew (Below.refl _ _)))
      have n3 := Aside0.mk (PX.out.step (below_drew (Below.refl _ _)))
      have n4 := Aside0.mk (PY.out.step (below_drew (Below.refl _ _)))
      clear HB BP BQ PX PY
      generalize w7.drew = wd at n0 n1 n2 n3 n4 hHeld ⊢
      have HB := n0
      have BP := n1
      have BQ := n2
      have PX := n3
      have PY := n4
      clear n0 n1 n2 n3 n4 hHeld
      refine inv_at [0, 1, 2, 3, 4, 5, 6, 7, 8, 9, 10, 11, 12, 13, 14] (fun a0_ b a w' => a = putSel a0_ b [(0, 56, .slice X lx.length cx), (1, 57, .string (strOfNums lx)), (2, 58, .slice Y ly.length cy), (3, 59, .string (strOfNums ly)), (4, 60, .bool ((strOfNums lx).toList == (strOfNums ly).toList)), (5, 61, .agg #[.int .i64 p.kind, .slice A1 p.keys.length c1, .slice A2 p.vals.length c2, .slice A3 p.kids.length c3, .int .i64 p.root, .int .i64 p.next, .int .i64 p.size, .int .i64 p.idle]), (6, 62, .agg #[.int .i64 q.kind, .slice B1 q.keys.length e1, .slice B2 q.vals.length e2, .slice B3 q.kids.length e3, .int .i64 q.root, .int .i64 q.next, .int .i64 q.size, .int .i64 q.idle]), (7, 63, .bool false), (8, 64, .bool false), (9, 65, undef), (10, 66, undef), (11, 67, undef), (12, 68, .bool false), (13, 69, .bool (((strOfNums lx).toList == (strOfNums ly).toList) == false)), (14, 10, .bool (((strOfNums lx).toList == (strOfNums ly).toList) == false))] ∧ (Below w.heap.size w w') ∧ (PBox p A1 c1 A2 c2 A3 c3 w.heap.size w') ∧ (PBox q B1 e1 B2 e2 B3 e3 (w.heap.size + 1) w') ∧ (Cs w' X cx lx) ∧ (Cs w' Y cy ly)) HT_.out HW_.out (by kernel_rfl) (by kernel_rfl) ?_ ?_ ?_
      · exact ⟨by simp only [putSel, Bool.false_eq_true, if_false], HB.out, BP.out, BQ.out, PX.out, PY.out⟩
      · skip
        clear BP BQ HB PX PY
        refine steps_cons ?_ ?_
        · rintro b a w' ⟨ha, Q_HB, Q_BP, Q_BQ, Q_PX, Q_PY⟩ hb_ hon hoff
          refine ⟨_, rfl, fun K hK => ?_⟩
          have e11 : a.tmps[11]? = some (.slice X lx.length cx) := by rw [ha]; exact (putSel_off rfl).trans rfl
          replace ha := Aside0.mk ha
          have HB := Aside0.mk Q_HB
          have BP := Aside0.mk Q_BP
          have BQ := Aside0.mk Q_BQ
          have PX := Aside0.mk Q_PX
          have PY := Aside0.mk Q_PY
          refine value_ (w1 := w') (v := .slice X lx.length cx) (by rfl) rfl ?_ ?_
          · go_simp
            (try simp only [i64_w])
            try rfl
          refine hK.out _ _ ⟨(by rw [ha.out]; exact putSel_upk 0 hb_ rfl rfl rfl), Q_HB, Q_BP, Q_BQ, Q_PX, Q_PY⟩
        refine steps_cons ?_ ?_
        · rintro b a w' ⟨ha, Q_HB, Q_BP, Q_BQ, Q_PX, Q_PY⟩ hb_ hon hoff
          refine ⟨_, rfl, fun K hK => ?_⟩
          have e56 : a.tmps[56]? = some (.slice X lx.length cx) := by rw [ha]; exact putSel_on (e := (0, 56, .slice X lx.length cx)) 0 rfl rfl (hon 0 (by kernel_rfl)) rfl
          replace ha := Aside0.mk ha
          have HB := Aside0.mk Q_HB
          have BP := Aside0.mk Q_BP
          have BQ := Aside0.mk Q_BQ
          have PX := Aside0.mk Q_PX
          have PY := Aside0.mk Q_PY
          have hcv_ := PX.out.conv (Below.refl _ _)
          refine value_ (w1 := w') (v := .string (strOfNums lx)) (by rfl) rfl ?_ ?_
          · go_simp
            (try simp only [i64_w])
            try rfl
          refine hK.out _ _ ⟨(by rw [ha.out]; exact putSel_upk 1 hb_ rfl rfl rfl), Q_HB, Q_BP, Q_BQ, Q_PX, Q_PY⟩
        refine steps_cons ?_ ?_
        · rintro b a w' ⟨ha, Q_HB, Q_BP, Q_BQ, Q_PX, Q_PY⟩ hb_ hon hoff
          refine ⟨_, rfl, fun K hK => ?_⟩
          have e13 : a.tmps[13]? = some (.slice Y ly.length cy) := by rw [ha]; exact (putSel_off rfl).trans rfl
          replace ha := Aside0.mk ha
          have HB := Aside0.mk Q_HB
          have BP := Aside0.mk Q_BP
          have BQ := Aside0.mk Q_BQ
          have PX := Aside0.mk Q_PX
          have PY := Aside0.mk Q_PY
          refine value_ (w1 := w') (v := .slice Y ly.length cy) (by rfl) rfl ?_ ?_
          · go_simp
            (try simp only [i64_w])
            try rfl
          refine hK.out _ _ ⟨(by rw [ha.out]; exact putSel_upk 2 hb_ rfl rfl rfl), Q_HB, Q_BP, Q_BQ, Q_PX, Q_PY⟩
        refine steps_cons ?_ ?_
        · rintro b a w' ⟨ha, Q_HB, Q_BP, Q_BQ, Q_PX, Q_PY⟩ hb_ hon hoff
          refine ⟨_, rfl, fun K hK => ?_⟩
          have e58 : a.tmps[58]? = some (.slice Y ly.length cy) := by rw [ha]; exact putSel_on (e := (2, 58, .slice Y ly.length cy)) 2 rfl rfl (hon 2 (by kernel_rfl)) rfl
          replace ha := Aside0.mk ha
          have HB := Aside0.mk Q_HB
          have BP := Aside0.mk Q_BP
          have BQ := Aside0.mk Q_BQ
          have PX := Aside0.mk Q_PX
          have PY := Aside0.mk Q_PY
          have hcv_ := PY.out.conv (Below.refl _ _)
          refine value_ (w1 := w') (v := .string (strOfNums ly)) (by rfl) rfl ?_ ?_
          · go_simp
            (try simp only [i64_w])
            try rfl
          refine hK.out _ _ ⟨(by rw [ha.out]; exact putSel_upk 3 hb_ rfl rfl rfl), Q_HB, Q_BP, Q_BQ, Q_PX, Q_PY⟩
        refine steps_cons ?_ ?_
        · rintro b a w' ⟨ha, Q_HB, Q_BP, Q_BQ, Q_PX, Q_PY⟩ hb_ hon hoff
          refine ⟨_, rfl, fun K hK => ?_⟩
          have e57 : a.tmps[57]? = some (.string (strOfNums lx)) := by rw [ha]; exact putSel_on (e := (1, 57, .string (strOfNums lx))) 1 rfl rfl (hon 1 (by kernel_rfl)) rfl
          have e59 : a.tmps[59]? = some (.string (strOfNums ly)) := by rw [ha]; exact putSel_on (e := (3, 59, .string (strOfNums ly))) 3 rfl rfl (hon 3 (by kernel_rfl)) rfl
          replace ha := Aside0.mk ha
          have HB := Aside0.mk Q_HB
          have BP := Aside0.mk Q_BP
          have BQ := Aside0.mk Q_BQ
          have PX := Aside0.mk Q_PX
          have PY := Aside0.mk Q_PY
          refine value_ (w1 := w') (v := .bool ((strOfNums lx).toList == (strOfNums ly).toList)) (by rfl) rfl ?_ ?_
          · go_simp
            (try simp only [i64_w])
            try rfl
          refine hK.out _ _ ⟨(by rw [ha.out]; exact putSel_upk 4 hb_ rfl rfl rfl), Q_HB, Q_BP, Q_BQ, Q_PX, Q_PY⟩
        refine steps_cons ?_ ?_
        · rintro b a w' ⟨ha, Q_HB, Q_BP, Q_BQ, Q_PX, Q_PY⟩ hb_ hon hoff
          refine ⟨_, rfl, fun K hK => ?_⟩
          have e5 : a.tmps[5]? = some (.pointer (some ⟨w.heap.size, 0, none⟩)) := by rw [ha]; exact (putSel_off rfl).trans rfl
          replace ha := Aside0.mk ha
          have HB := Aside0.mk Q_HB
          have BP := Aside0.mk Q_BP
          have BQ := Aside0.mk Q_BQ
          have PX := Aside0.mk Q_PX
          have PY := Aside0.mk Q_PY
          obtain ⟨_, d0, d1, d2, d3, d4, d5, d6, d7⟩ := BP.out
          refine value_ (w1 := w') (v := .agg #[.int .i64 p.kind, .slice A1 p.keys.length c1, .slice A2 p.vals.length c2, .slice A3 p.kids.length c3, .int .i64 p.root, .int .i64 p.next, .int .i64 p.size, .int .i64 p.idle]) (by rfl) rfl ?_ ?_
          · go_simp
            (try simp only [i64_w])
            try rfl
          refine hK.out _ _ ⟨(by rw [ha.out]; exact putSel_upk 5 hb_ rfl rfl rfl), Q_HB, Q_BP, Q_BQ, Q_PX, Q_PY⟩
        refine steps_cons ?_ ?_
        · rintro b a w' ⟨ha, Q_HB, Q_BP, Q_BQ, Q_PX, Q_PY⟩ hb_ hon hoff
          refine ⟨_, rfl, fun K hK => ?_⟩
          have e6 : a.tmps[6]? = some (.pointer (some ⟨w.heap.size + 1, 0, none⟩)) := by rw [ha]; exact (putSel_off rfl).trans rfl
          replace ha := Aside0.mk ha
          have HB := Aside0.mk Q_HB
          have BP := Aside0.mk Q_BP
          have BQ := Aside0.mk Q_BQ
          have PX := Aside0.mk Q_PX
          have PY := Aside0.mk Q_PY
          obtain ⟨_, d0, d1, d2, d3, d4, d5, d6, d7⟩ := BQ.out
          refine value_ (w1 := w') (v := .agg #[.int .i64 q.kind, .slice B1 q.keys.length e1, .slice B2 q.vals.length e2, .slice B3 q.kids.length e3, .int .i64 q.root, .int .i64 q.next, .int .i64 q.size, .int .i64 q.idle]) (by rfl) rfl ?_ ?_
          · go_simp
            (try simp only [i64_w])
            try rfl
          refine hK.out _ _ ⟨(by rw [ha.out]; exact putSel_upk 6 hb_ rfl rfl rfl), Q_HB, Q_BP, Q_BQ, Q_PX, Q_PY⟩
        refine steps_cons ?_ ?_
        · rintro b a w' ⟨ha, Q_HB, Q_BP, Q_BQ, Q_PX, Q_PY⟩ hb_ hon hoff
          refine ⟨_, rfl, fun K hK => ?_⟩
          have e61 : a.tmps[61]? = some (.agg #[.int .i64 p.kind, .slice A1 p.keys.length c1, .slice A2 p.vals.length c2, .slice A3 p.kids.length c3, .int .i64 p.root, .int .i64 p.next, .int .i64 p.size, .int .i64 p.idle]) := by rw [ha]; exact putSel_on (e := (5, 61, .agg #[.int .i64 p.kind, .slice A1 p.keys.length c1, .slice A2 p.vals.length c2, .slice A3 p.kids.length c3, .int .i64 p.root, .int .i64 p.next, .int .i64 p.size, .int .i64 p.idle])) 5 rfl rfl (hon 5 (by kernel_rfl)) rfl
          have e62 : a.tmps[62]? = some (.agg #[.int .i64 q.kind, .slice B1 q.keys.length e1, .slice B2 q.vals.length e2, .slice B3 q.kids.length e3, .int .i64 q.root, .int .i64 q.next, .int .i64 q.size, .int .i64 q.idle]) := by rw [ha]; exact putSel_on (e := (6, 62, .agg #[.int .i64 q.kind, .slice B1 q.keys.length e1, .slice B2 q.vals.length e2, .slice B3 q.kids.length e3, .int .i64 q.root, .int .i64 q.next, .int .i64 q.size, .int .i64 q.idle])) 6 rfl rfl (hon 6 (by kernel_rfl)) rfl
          replace ha := Aside0.mk ha
          have HB := Aside0.mk Q_HB
          have BP := Aside0.mk Q_BP
          have BQ := Aside0.mk Q_BQ
          have PX := Aside0.mk Q_PX
          have PY := Aside0.mk Q_PY
          refine goes_ Try.func20 (by kernel_rfl) rfl #[.agg #[.int .i64 p.kind, .slice A1 p.keys.length c1, .slice A2 p.vals.length c2, .slice A3 p.kids.length c3, .int .i64 p.root, .int .i64 p.next, .int .i64 p.size, .int .i64 p.idle], .agg #[.int .i64 q.kind, .slice B1 q.keys.length e1, .slice B2 q.vals.length e2, .slice B3 q.kids.length e3, .int .i64 q.root, .int .i64 q.next, .int .i64 q.size, .int .i64 q.idle]] (by rfl) rfl rfl (by first | (simp only [List.map_toArray, List.map_cons, List.map_nil, Act.eval, Array.getD_eq_getD_getElem?, Option.getD_some, e61, e62]; done) | (simp only [List.map_toArray, List.map_cons, List.map_nil, Act.eval, Array.getD_eq_getD_getElem?, Option.getD_some, e61, e62]; rfl)) ?_
          refine (SM.out _ HB.out).mono ?_
          rintro e_ wn_ ⟨rfl, hB_⟩
          refine ⟨_, rfl, ?_⟩
          refine hK.out _ _ ⟨(by rw [ha.out]; exact putSel_upk 7 hb_ rfl rfl rfl), (below_step HB.out hB_), (BP.out.below hB_), (BQ.out.below hB_), (PX.out.step hB_), (PY.out.step hB_)⟩
        refine steps_cons ?_ ?_
        · rintro b a w' ⟨ha, Q_HB, Q_BP, Q_BQ, Q_PX, Q_PY⟩ hb_ hon hoff
          refine ⟨_, rfl, fun K hK => ?_⟩
          have e63 : a.tmps[63]? = some (.bool false) := by rw [ha]; exact putSel_on (e := (7, 63, .bool false)) 7 rfl rfl (hon 7 (by kernel_rfl)) rfl
          replace ha := Aside0.mk ha
          have HB := Aside0.mk Q_HB
          have BP := Aside0.mk Q_BP
          have BQ := Aside0.mk Q_BQ
          have PX := Aside0.mk Q_PX
          have PY := Aside0.mk Q_PY
          refine value_ (w1 := w') (v := .bool false) (by rfl) rfl ?_ ?_
          · go_simp
            (try simp only [i64_w])
            try rfl
          refine hK.out _ _ ⟨(by rw [ha.out]; exact putSel_upk 8 hb_ rfl rfl rfl), Q_HB, Q_BP, Q_BQ, Q_PX, Q_PY⟩
        refine steps_cons ?_ ?_
        · rintro b a w' ⟨ha, Q_HB, Q_BP, Q_BQ, Q_PX, Q_PY⟩ hb_ hon hoff
          refine ⟨_, rfl, fun K hK => ?_⟩
          have e64 : a.tmps[64]? = some (.bool false) := by rw [ha]; exact putSel_on (e := (8, 64, .bool false)) 8 rfl rfl (hon 8 (by kernel_rfl)) rfl
          replace ha := Aside0.mk ha
          have HB := Aside0.mk Q_HB
          have BP := Aside0.mk Q_BP
          have BQ := Aside0.mk Q_BQ
          have PX := Aside0.mk Q_PX
          have PY := Aside0.mk Q_PY
          refine off_ (wanted_off rfl rfl rfl (e64.trans (by first | rfl | (simp [*]; done)))) ?_
          refine hK.out _ _ ⟨(by rw [ha.out]; exact putSel_upk 9 hb_ rfl rfl rfl), Q_HB, Q_BP, Q_BQ, Q_PX, Q_PY⟩
        refine steps_cons ?_ ?_
        · rintro b a w' ⟨ha, Q_HB, Q_BP, Q_BQ, Q_PX, Q_PY⟩ hb_ hon hoff
          refine ⟨_, rfl, fun K hK => ?_⟩
          have e64 : a.tmps[64]? = some (.bool false) := by rw [ha]; exact putSel_on (e := (8, 64, .bool false)) 8 rfl rfl (hon 8 (by kernel_rfl)) rfl
          replace ha := Aside0.mk ha
          have HB := Aside0.mk Q_HB
          have BP := Aside0.mk Q_BP
          have BQ := Aside0.mk Q_BQ
          have PX := Aside0.mk Q_PX
          have PY := Aside0.mk Q_PY
          refine off_ (wanted_off rfl rfl rfl (e64.trans (by first | rfl | (simp [*]; done)))) ?_
          refine hK.out _ _ ⟨(by rw [ha.out]; exact putSel_upk 10 hb_ rfl rfl rfl), Q_HB, Q_BP, Q_BQ, Q_PX, Q_PY⟩
        refine steps_cons ?_ ?_
        · rintro b a w' ⟨ha, Q_HB, Q_BP, Q_BQ, Q_PX, Q_PY⟩ hb_ hon hoff
          refine ⟨_, rfl, fun K hK => ?_⟩
          have e64 : a.tmps[64]? = some (.bool false) := by rw [ha]; exact putSel_on (e := (8, 64, .bool false)) 8 rfl rfl (hon 8 (by kernel_rfl)) rfl
          replace ha := Aside0.mk ha
          have HB := Aside0.mk Q_HB
          have BP := Aside0.mk Q_BP
          have BQ := Aside0.mk Q_BQ
          have PX := Aside0.mk Q_PX
          have PY := Aside0.mk Q_PY
          refine off_ (wanted_off rfl rfl rfl (e64.trans (by first | rfl | (simp [*]; done)))) ?_
          refine hK.out _ _ ⟨(by rw [ha.out]; exact putSel_upk 11 hb_ rfl rfl rfl), Q_HB, Q_BP, Q_BQ, Q_PX, Q_PY⟩
        refine steps_cons ?_ ?_
        · rintro b a w' ⟨ha, Q_HB, Q_BP, Q_BQ, Q_PX, Q_PY⟩ hb_ hon hoff
          refine ⟨_, rfl, fun K hK => ?_⟩
          have e64 : a.tmps[64]? = some (.bool false) := by rw [ha]; exact putSel_on (e := (8, 64, .bool false)) 8 rfl rfl (hon 8 (by kernel_rfl)) rfl
          have e67 : a.tmps[67]? = some (undef) := by rw [ha]; exact putSel_on (e := (11, 67, undef)) 11 rfl rfl (hon 11 (by kernel_rfl)) rfl
          replace ha := Aside0.mk ha
          have HB := Aside0.mk Q_HB
          have BP := Aside0.mk Q_BP
          have BQ := Aside0.mk Q_BQ
          have PX := Aside0.mk Q_PX
          have PY := Aside0.mk Q_PY
          refine value_ (w1 := w') (v := .bool false) (by rfl) rfl ?_ ?_
          · go_simp
            (try simp only [i64_w])
            try rfl
          refine hK.out _ _ ⟨(by rw [ha.out]; exact putSel_upk 12 hb_ rfl rfl rfl), Q_HB, Q_BP, Q_BQ, Q_PX, Q_PY⟩
        refine steps_cons ?_ ?_
        · rintro b a w' ⟨ha, Q_HB, Q_BP, Q_BQ, Q_PX, Q_PY⟩ hb_ hon hoff
          refine ⟨_, rfl, fun K hK => ?_⟩
          have e60 : a.tmps[60]? = some (.bool ((strOfNums lx).toList == (strOfNums ly).toList)) := by rw [ha]; exact putSel_on (e := (4, 60, .bool ((strOfNums lx).toList == (strOfNums ly).toList))) 4 rfl rfl (hon 4 (by kernel_rfl)) rfl
          have e68 : a.tmps[68]? = some (.bool false) := by rw [ha]; exact putSel_on (e := (12, 68, .bool false)) 12 rfl rfl (hon 12 (by kernel_rfl)) rfl
          replace ha := Aside0.mk ha
          have HB := Aside0.mk Q_HB
          have BP := Aside0.mk Q_BP
          have BQ := Aside0.mk Q_BQ
          have PX := Aside0.mk Q_PX
          have PY := Aside0.mk Q_PY
          refine value_ (w1 := w') (v := .bool (((strOfNums lx).toList == (strOfNums ly).toList) == false)) (by rfl) rfl ?_ ?_
          · go_simp
            (try simp only [i64_w])
            try rfl
          refine hK.out _ _ ⟨(by rw [ha.out]; exact putSel_upk 13 hb_ rfl rfl rfl), Q_HB, Q_BP, Q_BQ, Q_PX, Q_PY⟩
        refine steps_cons ?_ ?_
        · rintro b a w' ⟨ha, Q_HB, Q_BP, Q_BQ, Q_PX, Q_PY⟩ hb_ hon hoff
          refine ⟨_, rfl, fun K hK => ?_⟩
          have e69 : a.tmps[69]? = some (.bool (((strOfNums lx).toList == (strOfNums ly).toList) == false)) := by rw [ha]; exact putSel_on (e := (13, 69, .bool (((strOfNums lx).toList == (strOfNums ly).toList) == false))) 13 rfl rfl (hon 13 (by kernel_rfl)) rfl
          replace ha := Aside0.mk ha
          have HB := Aside0.mk Q_HB
          have BP := Aside0.mk Q_BP
          have BQ := Aside0.mk Q_BQ
          have PX := Aside0.mk Q_PX
          have PY := Aside0.mk Q_PY
          refine value_ (w1 := w') (v := .bool (((strOfNums lx).toList == (strOfNums ly).toList) == false)) (by rfl) rfl ?_ ?_
          · go_simp
            (try simp only [i64_w])
            try rfl
          refine hK.out _ _ ⟨(by rw [ha.out]; exact putSel_upk 14 hb_ rfl rfl rfl), Q_HB, Q_BP, Q_BQ, Q_PX, Q_PY⟩
        exact steps_nil
      rintro b a w' hall ⟨ha, Q_HB, Q_BP, Q_BQ, Q_PX, Q_PY⟩
      clear BP BQ HB PX PY
      have hb0_ := hall 0 (by kernel_rfl)
      have hb1_ := hall 1 (by kernel_rfl)
      have hb2_ := hall 2 (by kernel_rfl)
      have hb3_ := hall 3 (by kernel_rfl)
      have hb4_ := hall 4 (by kernel_rfl)
      have hb5_ := hall 5 (by kernel_rfl)
      have hb6_ := hall 6 (by kernel_rfl)
      have hb7_ := hall 7 (by kernel_rfl)
      have hb8_ := hall 8 (by kernel_rfl)
      have hb9_ := hall 9 (by kernel_rfl)
      have hb10_ := hall 10 (by kernel_rfl)
      have hb11_ := hall 11 (by kernel_rfl)
      have hb12_ := hall 12 (by kernel_rfl)
      have hb13_ := hall 13 (by kernel_rfl)
      have hb14_ := hall 14 (by kernel_rfl)
      subst ha
      simp only [putSel, hb0_, hb1_, hb2_, hb3_, hb4_, hb5_, hb6_, hb7_, hb8_, hb9_, hb10_, hb11_, hb12_, hb13_, hb14_, if_true, Act.put, List.setIfInBounds_toArray, List.set_cons_zero, List.set_cons_succ]
      have HB := Aside0.mk Q_HB
      clear Q_HB
      have BP := Aside0.mk Q_BP
      clear Q_BP
      have BQ := Aside0.mk Q_BQ
      clear Q_BQ
      have PX := Aside0.mk Q_PX
      clear Q_PX
      have PY := Aside0.mk Q_PY
      clear Q_PY
      clear hall hb0_ hb1_ hb2_ hb3_ hb4_ hb5_ hb6_ hb7_ hb8_ hb9_ hb10_ hb11_ hb12_ hb13_ hb14_
      go_wp2
      go_ret
      exact ⟨by have h := hfin.out; rw [Bool.false_and] at h; rw [h]; rfl, HB.out⟩

theorem law_m (p q : PgV) (A1 : Option Addr) (c1 : Nat) (A2 : Option Addr) (c2 : Nat) (A3 : Option Addr) (c3 : Nat) (B1 : Option Addr) (e1 : Nat) (B2 : Option Addr) (e2 : Nat) (B3 : Option Addr) (e3 : Nat) (a b : Nat) (n : Int) (w : World) (hp : PgR w p A1 c1 A2 c2 A3 c3) (hq : PgR w q B1 e1 B2 e2 B3 e3)
    (ha : a < 18446744073709551616) (hb : b < 18446744073709551616) :
    Calls Try.prog 8 #[p.lay A1 c1 A2 c2 A3 c3, q.lay B1 e1 B2 e2 B3 e3, .int .u64 (a : Int), .int .u64 (b : Int), .int .i64 n] w fun e w' => e = .returned (.bool true) ∧ Below w.heap.size w w' := by
  rcases Bool.eq_false_or_eq_true (smallB p) with h1 | h1
  · rcases Bool.eq_false_or_eq_true (smallB q) with h2 | h2
    · refine small p q A1 c1 A2 c2 A3 c3 B1 e1 B2 e2 B3 e3 a b n w hp hq ha hb h1 h2 _ _ rfl rfl ?_
      cases rightP p <;> cases rightP q <;> simp
    · exact large p q A1 c1 A2 c2 A3 c3 B1 e1 B2 e2 B3 e3 a b n w hp hq _ _ h1 h2 (.inr ⟨rfl, rfl⟩)
  · exact large p q A1 c1 A2 c2 A3 c3 B1 e1 B2 e2 B3 e3 a b n w hp hq _ _ h1 rfl (.inl rfl)

theorem law_ok (k1 : Int) (A1 : Option Addr) (c1 : Nat) (l1 : List ByteArray) (A2 : Option Addr) (c2 : Nat) (l2 : List ByteArray) (A3 : Option Addr) (c3 : Nat) (l3 : List Int) (r1 x1 s1 i1 : Int)
    (k2 : Int) (B1 : Option Addr) (e1 : Nat) (m1 : List ByteArray) (B2 : Option Addr) (e2 : Nat) (m2 : List ByteArray) (B3 : Option Addr) (e3 : Nat) (m3 : List Int) (r2 x2 s2 i2 : Int) (a b n : Int) (w : World)
    (_ : (Lit.int .i64 k1).wf = true) (h1 : l1.length ≤ c1) (C1 : Kd.C Kd.string w A1 l1.length l1) (_ : ∀ x ∈ l1, x.size ≤ maxLen) (h2 : l2.length ≤ c2) (C2 : Kd.C Kd.string w A2 l2.length l2) (_ : ∀ x ∈ l2, x.size ≤ maxLen) (h3 : l3.length ≤ c3) (C3 : Kd.C (Kd.int .i64) w A3 l3.length l3) (_ : ∀ x ∈ l3, (Lit.int .i64 x).wf = true) (_ : (Lit.int .i64 r1).wf = true) (_ : (Lit.int .i64 x1).wf = true) (_ : (Lit.int .i64 s1).wf = true) (_ : (Lit.int .i64 i1).wf = true)
    (_ : (Lit.int .i64 k2).wf = true) (h4 : m1.length ≤ e1) (C4 : Kd.C Kd.string w B1 m1.length m1) (_ : ∀ x ∈ m1, x.size ≤ maxLen) (h5 : m2.length ≤ e2) (C5 : Kd.C Kd.string w B2 m2.length m2) (_ : ∀ x ∈ m2, x.size ≤ maxLen) (h6 : m3.length ≤ e3) (C6 : Kd.C (Kd.int .i64) w B3 m3.length m3) (_ : ∀ x ∈ m3, (Lit.int .i64 x).wf = true) (_ : (Lit.int .i64 r2).wf = true) (_ : (Lit.int .i64 x2).wf = true) (_ : (Lit.int .i64 s2).wf = true) (_ : (Lit.int .i64 i2).wf = true)
    (ha : (Lit.int .u64 a).wf = true) (hb : (Lit.int .u64 b).wf = true) (_ : (Lit.int .i64 n).wf = true) :
    Calls Try.prog 8 #[.agg #[.int .i64 k1, .slice A1 l1.length c1, .slice A2 l2.length c2, .slice A3 l3.length c3, .int .i64 r1, .int .i64 x1, .int .i64 s1, .int .i64 i1], .agg #[.int .i64 k2, .slice B1 m1.length e1, .slice B2 m2.length e2, .slice B3 m3.length e3, .int .i64 r2, .int .i64 x2, .int .i64 s2, .int .i64 i2], .int .u64 a, .int .u64 b, .int .i64 n] w fun e w' => e = .returned (.bool true) ∧ Below w.heap.size w w' := by
  have b1 := bounds_u64 ha
  have b2 := bounds_u64 hb
  obtain ⟨a, rfl⟩ := Int.eq_ofNat_of_zero_le (show 0 ≤ a by omega)
  obtain ⟨b, rfl⟩ := Int.eq_ofNat_of_zero_le (show 0 ≤ b by omega)
  exact law_m ⟨k1, l1, l2, l3, r1, x1, s1, i1⟩ ⟨k2, m1, m2, m3, r2, x2, s2, i2⟩ A1 c1 A2 c2 A3 c3 B1 e1 B2 e2 B3 e3 a b n w ⟨C1, h1, C2, h2, C3, h3⟩ ⟨C4, h4, C5, h5, C6, h6⟩ (by omega) (by omega)

end Go.Proofs.Ytopfaeefhicljaa.PgApart
