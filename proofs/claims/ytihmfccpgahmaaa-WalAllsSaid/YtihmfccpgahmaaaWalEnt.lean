/- (*wal.Log).entry, walked: the entry that begins at a number. Conditions: the log's numbers within their bounds, all on the disk is bytes. -/
import Derived.Test.YtihmfccpgahmaaaWalMark
import Derived.Test.YtihmfccpgahmaaaAppStr
namespace Go.Proofs.Ytihmfccpgahmaaa.Wal
open Go Go.RowKit
open Go.Proofs.YtihmfccpgahmaaaW.PrintWords hiding Kept Kept.refl
open Go.Proofs.YtihmfccpgahmaaaW.PrintMore Go.Proofs.YtihmfccpgahmaaaW.PrintLast Go.Proofs.Ytihmfccpgahmaaa.Dk Go.Proofs.Ytihmfccpgahmaaa.Q Go.Proofs.Ytihmfccpgahmaaa.Str Go.Proofs.Ytihmfccpgahmaaa.Leb
set_option linter.unusedVariables false
set_option linter.unusedSimpArgs false
structure Ent where
  b : List Int
  next : Int
  life : Int
  ok : Bool
  e : Int
def Ent.no (e : Int) : Ent := ⟨[], 0, 0, false, e⟩
def Part.bad (q : Part) (lsn n life : Int) : Prop := q.e ≠ 0 ∨ q.ok = false ∨ q.life < life ∨ (lsn < n ∧ q.life ≠ life)
instance (q : Part) (lsn n life : Int) : Decidable (q.bad lsn n life) := by unfold Part.bad; infer_instance
/-- The entry's rest, from number n on. -/
def LA.ent (L : LA) (M : DA) (lsn : Int) : Nat → Int → Int → List Int → Ent
  | 0, _, _, _ => Ent.no 0
  | k + 1, n, life, out =>
    if (L.rd M n).bad lsn n life then Ent.no (L.rd M n).e
    else if (L.rd M n).last = true then ⟨out ++ bytesOf (L.rd M n).b, n + 1, (L.rd M n).life, true, 0⟩
    else L.ent M lsn k (n + 1) (L.rd M n).life (out ++ bytesOf (L.rd M n).b)
/-- The entry that begins at a number. -/
def LA.entry (L : LA) (M : DA) (lsn life : Int) : Ent := L.ent M lsn (L.ring - (lsn - L.start)).toNat lsn life []
theorem rtext_size {s : RdS} (h : Byt s.b) {m : Int} (hm : 0 ≤ m) : ((rtext s m).1.size : Int) ≤ m := by
  have hb := rnum_back (s := s) (most := if 0 < m then m else 0) h
  have hmm : (if 0 < m then m else 0) = m := by split <;> omega
  unfold rtext
  generalize rnum s (if 0 < m then m else 0) = q at hb ⊢
  show ((if q.2.e = 0 then _ else _ : ByteArray × RdS).1.size : Int) ≤ m
  by_cases h1 : q.2.e = 0
  · rw [if_pos h1]
    obtain ⟨n, _, h3, h4⟩ := hb h1
    by_cases h2 : (q.2.b.length : Int) < q.1
    · rw [if_pos h2]; exact hm
    · rw [if_neg h2, size_str, List.length_take]
      omega
  · rw [if_neg h1]; exact hm
theorem LA.rd_fit (L : LA) {M : DA} (h : DY M) (n : Int) : 0 ≤ (L.rd M n).life ∧ (L.rd M n).life < 18446744073709551616 ∧ (L.rd M n).b.size ≤ 480 := by
  unfold LA.rd
  split
  · have h1 := rnum_byt (s := ⟨M.rdB (L.pl n), 0⟩) (h.rdB _) 9223372036854775807
    have h2 := rnum_range (most := 1099511627776) h1
    have h3 := rtext_size (m := 480) (rnum_byt (rnum_byt h1 1099511627776) 1) (by decide)
    exact ⟨h2.1, h2.2, by show (rtext _ 480).1.size ≤ 480; omega⟩
  · split <;> exact ⟨Int.le_refl _, by show (0 : Int) < _; decide, Nat.zero_le _⟩
section
variable {w0 w wa W : World} {p g : Nat} {S : Nat → Prop} {L : LA} {M : DA}
theorem LA.ent_succ (lsn : Int) (k : Nat) (n life : Int) (out : List Int) : L.ent M lsn (k + 1) n life out = if (L.rd M n).bad lsn n life then Ent.no (L.rd M n).e else if (L.rd M n).last = true then ⟨out ++ bytesOf (L.rd M n).b, n + 1, (L.rd M n).life, true, 0⟩ else L.ent M lsn k (n + 1) (L.rd M n).life (out ++ bytesOf (L.rd M n).b) := rfl
set_option maxRecDepth 100000 in
set_option maxHeartbeats 4000000 in
theorem entry_l (h : Lg w0 w p g S L M) (hk : L.Ok M.now.length) (hY : DY M) (lsn life : Int) (h0 : L.start ≤ lsn) (h1 : lsn ≤ L.start + L.ring) (hl0 : 0 ≤ life) (hl1 : life < 18446744073709551616) : Calls Try.prog 55 #[.pointer (some ⟨p, 0, none⟩), .int .u64 lsn, .int .u64 life] w fun e w' =>
    ∃ v, e = .returned (.tuple #[v, .int .u64 (L.entry M lsn life).next, .int .u64 (L.entry M lsn life).life, .bool (L.entry M lsn life).ok, .int .i64 (L.entry M lsn life).e]) ∧ Rb w w' v (L.entry M lsn life).b ∧ Below w.heap.size w w' := by
  have HL := Aside0.mk h
  have HK := Aside0.mk hk
  have hr := hk.r0
  have hs := hk.s0
  have hn6 := hk.n6
  have hfn := hk.fn
  have hf0 := hk.f0
  have hsn := hk.sn
  have hnx := hk.nx
  have hrb : L.ring ≤ 65536 := by omega
  have hsb : L.start ≤ 4611686018437387904 := by omega
  obtain ⟨wa, hwa⟩ : ∃ x, x = w := ⟨_, rfl⟩
  subst hwa
  obtain ⟨E0, hE0⟩ : ∃ E, E = L.entry M lsn life := ⟨_, rfl⟩
  rw [← hE0]
  have HE := Aside0.mk hE0
  obtain ⟨K, hK⟩ : ∃ K, K = (L.ring - (lsn - L.start)).toNat := ⟨_, rfl⟩
  have hKi : (K : Int) = L.ring - (lsn - L.start) := by omega
  have HE1 := Aside0.mk (show L.ent M lsn K lsn life [] = E0 by rw [hE0, hK]; rfl)
  have HLF := Aside0.mk (And.intro hl0 hl1)
  have er : IntKind.u64.wrap L.ring = L.ring := wu64 (by omega) (by omega)
  clear h hk hE0 hK hn6 hfn hf0 hsn hnx hl0 hl1
  go_enter Try.func55, Try.ntmps55
  go_wp2
  go_loopw [2, 11, 12] (fun v2 v11 v12 wr => ∃ (j : Nat) (lf : Int) (out : List Int), v2 = .int .u64 lf ∧ v12 = .int .u64 (lsn + (j : Int)) ∧ j ≤ K ∧ Aside0 (Rb wa wr v11 out ∧ Below wa.heap.size wa wr ∧ (0 ≤ lf ∧ lf < 18446744073709551616) ∧ out.length ≤ j * 480 ∧ L.ent M lsn (K - j) (lsn + (j : Int)) lf out = E0)) (fun _ _ v12 _ => (lsn + K - intOf v12).toNat)
  case atStart => exact ⟨0, life, [], rfl, by simp, Nat.zero_le _, ⟨Rb.nil _ _, Below.refl _ _, HLF.out, by simp, by simpa using HE1.out⟩⟩
  case round =>
    obtain ⟨j, lf, out, rfl, rfl, hjK, hrel⟩ := hrel
    have HREL := hrel
    clear hrel HLF HE1
    have ew : IntKind.u64.wrap (lsn + (j : Int) - L.start) = lsn + (j : Int) - L.start := wu64 (by omega) (by omega)
    have c5 := (HL.out.below HREL.out.2.1).all.2.2.2.2.2.1
    have c2 := (HL.out.below HREL.out.2.1).all.2.2.1
    by_cases hj : j < K
    · have t1 : decide (lsn + (j : Int) - L.start < L.ring) = true := decide_eq_true (by omega)
      go_upto_region 3 with fail
      go_quiet (fail)
      have HB1 := Aside0.mk (below_step HREL.out.2.1 (below_drewN wr nq))
      have HO1 := Aside0.mk (HREL.out.1.below (below_drewN wr nq))
      obtain ⟨hlf, hlen, heq⟩ := HREL.out.2.2
      have HLF := Aside0.mk hlf
      have HLen := Aside0.mk hlen
      rw [show K - j = (K - (j + 1)) + 1 by omega, LA.ent_succ] at heq
      clear HREL
      generalize wr.drewN nq = wq at HB1 HO1 ⊢
      clear c5 c2 ew t1 hlf hlen
      go_wp2_with fail
      refine (read_l (HL.out.below HB1.out) HK.out hY (lsn + (j : Int)) (by omega) (by omega)).mono ?_
      rintro e w5 ⟨rfl, hb⟩
      have hfit := L.rd_fit hY (lsn + (j : Int))
      generalize L.rd M (lsn + (j : Int)) = q at heq hfit ⊢
      have HB2 := Aside0.mk (below_step HB1.out hb)
      have HO2 := Aside0.mk (HO1.out.below hb)
      clear HB1 HO1 hb
      obtain ⟨ql, qlast, qb, qok, qe⟩ := q
      have HF := Aside0.mk hfit
      have hqb : qb.size ≤ 480 := hfit.2.2
      clear hfit
      by_cases hbad : (⟨ql, qlast, qb, qok, qe⟩ : Part).bad lsn (lsn + (j : Int)) lf
      · rw [if_pos hbad] at heq
        have HEq := Aside0.mk heq
        have hc : (qe != 0) = true ∨ ((qe != 0) = false ∧ qok = false) ∨ ((qe != 0) = false ∧ qok = true ∧ decide (ql < lf) = true) ∨ ((qe != 0) = false ∧ qok = true ∧ decide (ql < lf) = false ∧ decide (lsn < lsn + (j : Int)) = true ∧ (ql != lf) = true) := by
          unfold Part.bad at hbad
          simp only at hbad
          by_cases a1 : qe = 0
          · right
            cases qok
            · left; simp [a1]
            · right
              by_cases a2 : ql < lf
              · left; simp [a1, a2]
              · right
                rcases hbad with h | h | h | h
                · exact absurd a1 h
                · cases h
                · exact absurd h a2
                · simp [a1, a2, h.1, h.2]
          · left; simp [a1]
        clear hbad heq
        rcases hc with b1 | ⟨b1, rfl⟩ | ⟨b1, rfl, b2⟩ | ⟨b1, rfl, b2, b3, b4⟩
        all_goals
          go_wp2
          (try simp only [Exit.inBlock, Exit.then])
          refine bodyPost_ret (results_tmp5 rfl _ _) rfl ?_
          rw [← HEq.out]
          exact ⟨_, rfl, Rb.nil _ _, below_alloc HB2.out _⟩
      · rw [if_neg hbad] at heq
        have HEq := Aside0.mk heq
        have hc : ((qe != 0) = false ∧ qok = true ∧ decide (ql < lf) = false ∧ decide (lsn < lsn + (j : Int)) = false) ∨ ((qe != 0) = false ∧ qok = true ∧ decide (ql < lf) = false ∧ decide (lsn < lsn + (j : Int)) = true ∧ (ql != lf) = false) := by
          unfold Part.bad at hbad
          simp only [not_or, not_and, Bool.not_eq_false, Decidable.not_not] at hbad
          obtain ⟨a1, a2, a3, a4⟩ := hbad
          by_cases a5 : lsn < lsn + (j : Int)
          · right; simp [a1, a2, a3, a5, a4 a5]
          · left; simp [a1, a2, a3, a5]
        have hlt5 := Aside0.mk (fun k hk => Kd.R_lt HO2.out k hk)
        clear hbad heq
        have ewn : IntKind.u64.wrap (lsn + (j : Int) + 1) = lsn + (j : Int) + 1 := wu64 (by omega) (by omega)
        cases hql : qlast
        · rcases hc with ⟨b1, rfl, b2, b3⟩ | ⟨b1, rfl, b2, b3, b4⟩
          all_goals
            go_wp2_with (at_builtin; refine R_append_str (w0 := wa) wa.heap.size rfl (.tmp 64) (.tmp 66) 22 9 5 rfl Try.underlying22 Try.underlying9 infoB u11 out qb (fun _ => True) rfl rfl (Kd.R_alloc HO2.out _) (fun _ _ => trivial) (below_alloc HB2.out _) (below_size (below_alloc HB2.out _)) (by have := HLen.out; omega) ?_; intro v1 w6 ho hb hg hat; have HO3 := Aside0.mk ho; have HB3 := Aside0.mk hb; have HX := Aside0.mk ((hg.block w5.heap.size (blk_lt (blk_new w5 _)) (fun he => Nat.lt_irrefl _ (hlt5.out _ he.symm))).trans (blk_new w5 _)); have hx1 : w6.cell? ⟨w5.heap.size, 1, none⟩ = some (.bool false) := (blk_cell HX.out 1).trans rfl; clear ho hb hg hat)
            go_roundw
            case rel =>
              have he := HEq.out
              rw [hql, if_neg (by decide)] at he
              exact ⟨j + 1, ql, out ++ bytesOf qb, rfl, by go_num, by omega, ⟨HO3.out, HB3.out, ⟨HF.out.1, HF.out.2.1⟩, by rw [List.length_append, length_bytes]; have := HLen.out; omega, by rw [← he]; congr 1; omega⟩⟩
            case measure => simp [intOf]; omega
        · rcases hc with ⟨b1, rfl, b2, b3⟩ | ⟨b1, rfl, b2, b3, b4⟩
          all_goals
            go_wp2_with (at_builtin; refine R_append_str (w0 := wa) wa.heap.size rfl (.tmp 64) (.tmp 66) 22 9 5 rfl Try.underlying22 Try.underlying9 infoB u11 out qb (fun _ => True) rfl rfl (Kd.R_alloc HO2.out _) (fun _ _ => trivial) (below_alloc HB2.out _) (below_size (below_alloc HB2.out _)) (by have := HLen.out; omega) ?_; intro v1 w6 ho hb hg hat; have HO3 := Aside0.mk ho; have HB3 := Aside0.mk hb; have HX := Aside0.mk ((hg.block w5.heap.size (blk_lt (blk_new w5 _)) (fun he => Nat.lt_irrefl _ (hlt5.out _ he.symm))).trans (blk_new w5 _)); have hx1 : w6.cell? ⟨w5.heap.size, 1, none⟩ = some (.bool true) := (blk_cell HX.out 1).trans rfl; clear ho hb hg hat)
            (try simp only [Exit.inBlock, Exit.then])
            refine bodyPost_ret (results_tmp5 rfl _ _) rfl ?_
            have he := HEq.out
            rw [hql, if_pos rfl] at he
            rw [← he]
            exact ⟨_, rfl, HO3.out, HB3.out⟩
    · obtain rfl : j = K := by omega
      have t1 : decide (lsn + (j : Int) - L.start < L.ring) = false := decide_eq_false (by omega)
      go_upto_region 3 with fail
      go_quiet (fail)
      have HREL2 := Aside0.mk (below_step HREL.out.2.1 (below_drewN _ nq))
      have HEE := Aside0.mk HREL.out.2.2.2.2
      clear HREL c5 c2
      generalize World.drewN _ nq = wq at HREL2 ⊢
      go_wp2
      (try simp only [Exit.inBlock, Exit.then])
      refine bodyPost_ret (results_tmp5 rfl _ _) rfl ?_
      have he := HEE.out
      rw [Nat.sub_self] at he
      rw [← he]
      exact ⟨_, rfl, Rb.nil _ _, HREL2.out⟩
end
end Go.Proofs.Ytihmfccpgahmaaa.Wal
