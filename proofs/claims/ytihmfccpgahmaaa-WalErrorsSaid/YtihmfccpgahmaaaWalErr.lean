/- The law WalErrors, walked: true, for whatever numbers. -/
import Derived.Test.YtihmfccpgahmaaaWalGood
namespace Go.Proofs.Ytihmfccpgahmaaa.Wal
open Go Go.RowKit Go.Proofs.Ytihmfccpgahmaaa.Rng
open Go.Proofs.YtihmfccpgahmaaaW.PrintWords hiding Kept Kept.refl
open Go.Proofs.YtihmfccpgahmaaaW.PrintMore Go.Proofs.YtihmfccpgahmaaaW.PrintLast Go.Proofs.Ytihmfccpgahmaaa.Dk Go.Proofs.Ytihmfccpgahmaaa.Q Go.Proofs.Ytihmfccpgahmaaa.Str Go.Proofs.Ytihmfccpgahmaaa.Leb
set_option linter.unusedVariables false
set_option linter.unusedSimpArgs false
attribute [local go_sem] Oper.semAt_some
/-! A nil log. -/
section
variable {w : World}
theorem nil_append (v : Value) : Calls Try.prog 36 #[.pointer none, v] w fun e w' => e = .returned (.tuple #[.int .u64 0, .int .i64 1]) ∧ w' = w := by
  go_enter Try.func36, Try.ntmps36
  go_wp2
  go_ret2
  exact ⟨rfl, rfl⟩
theorem nil_cut (n : Int) : Calls Try.prog 45 #[.pointer none, .int .u64 n] w fun e w' => e = .returned (.int .i64 1) ∧ w' = w := by
  go_enter Try.func45, Try.ntmps45
  go_wp2
  go_ret
  exact ⟨rfl, rfl⟩
theorem nil_force : Calls Try.prog 43 #[.pointer none] w fun e w' => e = .returned (.int .i64 1) ∧ w' = w := by
  go_enter Try.func43, Try.ntmps43
  go_wp2
  go_ret
  exact ⟨rfl, rfl⟩
theorem nil_free : Calls Try.prog 40 #[.pointer none] w fun e w' => e = .returned (.int .i64 0) ∧ w' = w := by
  go_enter Try.func40, Try.ntmps40
  go_wp2
  go_ret
  exact ⟨rfl, rfl⟩
theorem nil_room : Calls Try.prog 48 #[.pointer none] w fun e w' => e = .returned (.int .i64 0) ∧ w' = w := by
  go_enter Try.func48, Try.ntmps48
  go_wp2
  go_ret
  exact ⟨rfl, rfl⟩
theorem nil_start : Calls Try.prog 47 #[.pointer none] w fun e w' => e = .returned (.int .u64 0) ∧ w' = w := by
  go_enter Try.func47, Try.ntmps47
  go_wp2
  go_ret
  exact ⟨rfl, rfl⟩
theorem nil_next : Calls Try.prog 46 #[.pointer none] w fun e w' => e = .returned (.int .u64 0) ∧ w' = w := by
  go_enter Try.func46, Try.ntmps46
  go_wp2
  go_ret
  exact ⟨rfl, rfl⟩
theorem nil_safe : Calls Try.prog 49 #[.pointer none] w fun e w' => e = .returned (.int .u64 0) ∧ w' = w := by
  go_enter Try.func49, Try.ntmps49
  go_wp2
  go_ret
  exact ⟨rfl, rfl⟩
theorem nil_life : Calls Try.prog 44 #[.pointer none] w fun e w' => e = .returned (.int .u64 0) ∧ w' = w := by
  go_enter Try.func44, Try.ntmps44
  go_wp2
  go_ret
  exact ⟨rfl, rfl⟩
theorem nil_all (n : Int) : CallsIn Fence.wide 3 Try.prog 42 #[.pointer none, .int .u64 n] w fun e w' =>
    e = .returned (.func (.func 58) #[] #[.pointer (some ⟨w.heap.size, 0, none⟩), .pointer (some ⟨w.heap.size + 1, 0, none⟩)]) ∧ w' = (w.alloc (.cells #[.pointer none] 52)).alloc (.cells #[.int .u64 n] 55) := by
  refine callsIn_of_wp Try.func42 rfl trivial ?_ rfl
  simp only [Try.ntmps42, List.size_toArray, List.length_cons, List.length_nil, Nat.reduceAdd, Nat.reduceSub, Array.replicate_succ, Array.replicate_zero, List.push_toArray, List.append_toArray, List.nil_append, List.cons_append]
  gi_wp2
  go_ret
  exact ⟨rfl, rfl⟩
set_option maxRecDepth 100000 in
set_option maxHeartbeats 4000000 in
theorem nil_s (m : Nat) (b1 b2 : Nat) (hb1 : w.cell? ⟨b1, 0, none⟩ = some (.pointer none)) :
    SeqH Fence.wide m Try.prog 58 #[.pointer (some ⟨b1, 0, none⟩), .pointer (some ⟨b2, 0, none⟩)] encs (fun _ _ => True) (fun _ _ _ => False) (fun xs : List Item => xs = []) (fun _ => False) w := by
  intro l J Jx W hbW hJ hJx hY0 hJ0
  have x1 := (hbW.cell (World.block_lt_of_cell? _ _ hb1)).trans hb1
  have HJ := Aside0.mk hJ
  clear hJ hJx hY0 hbW hb1
  refine callsIn_of_wp Try.func58 rfl trivial ?_ rfl
  simp only [Try.ntmps58, List.size_toArray, List.length_cons, List.length_nil, Nat.reduceAdd, Nat.reduceSub, Array.replicate_succ, Array.replicate_zero, List.push_toArray, List.append_toArray, List.nil_append, List.cons_append]
  gi_upto_region 0 with fail
  gi_quiet (fail)
  have hJ1 := Aside0.mk (HJ.out [] _ _ hJ0 (below_drewN W nq))
  gi_wp2
  (try simp only [Exit.inBlock, Exit.then])
  refine bodyPost_ret (results_none rfl _ _ _) rfl ?_
  exact ⟨⟨_, rfl⟩, .inl ⟨[], rfl, hJ1.out⟩⟩
end
/-! The other log: a disk of fifty sectors. -/
def eM0 : DA := DA.new (newN 50).toNat
def eL : LA := ⟨0, 48, 1, 1, 0, 1, 0, 0⟩
def eM1 : DA := (opn eM0 0 50).M
def eA : AppR := eL.append eM1 (List.replicate 16384 0)
theorem e_gd : Gd eM0 50 ∧ ∀ j : Int, 0 ≤ j → j < 50 → eM0.rdE j = 0 ∧ eM0.rdB j = zeros := new_gd 50 (by decide) (by decide)
theorem e_opn (fr n : Int) (h : 2 < n ∧ 0 ≤ fr ∧ n ≤ 50 - fr) : (opn eM0 fr n).e = 0 ∧ (opn eM0 fr n).L = some ⟨fr, n - 2, 1, 1, 0, 1, 0, 0⟩ := by
  have := opn_fresh (fr := fr) (n := n) e_gd.1 (by decide) h.1 h.2.1 (by omega) (fun j a b => e_gd.2 j (by omega) (by omega))
  rw [this]; exact ⟨rfl, rfl⟩
theorem e_no (fr n : Int) (h : ¬ (2 < n ∧ 0 ≤ fr ∧ n ≤ 50 - fr)) : (opn eM0 fr n).e = 1 := by
  have hn : eM0.now.length = 50 := e_gd.1.n
  unfold opn
  rw [if_pos (by rw [hn]; omega)]
set_option maxRecDepth 100000 in
theorem e_app : eA.e = 0 ∧ eA.L.next = 35 ∧ eA.L.start = 0 ∧ eA.M.now.length = 50 := by decide +kernel
set_option maxRecDepth 100000 in
theorem e_all : ∃ (L : LA) (M1 : DA) (A : AppR) (M0 : DA), Aside0 (M0 = eM0 ∧ M1 = (opn M0 0 50).M ∧ (opn M0 0 50).L = some L ∧ (opn M0 0 50).e = 0 ∧ L.Ok M1.now.length ∧ DY M1 ∧ M1.wait.length ≤ 1 ∧ L.next = 0 ∧ DY M0 ∧ M0.wait.length = 0) ∧
    Aside0 (∀ l : List Int, l = List.replicate 16385 0 → L.append M1 l = ⟨0, 1, L, M1⟩) ∧ Aside0 (∀ l : List Int, l = List.replicate 16384 0 → L.append M1 l = A) ∧ A.e = 0 ∧ Aside0 (A.L.Ok A.M.now.length ∧ DY A.M ∧ A.M.wait.length ≤ 50 ∧ A.L.cut A.M 36 = ⟨1, A.L, A.M⟩ ∧ opn A.M.off 0 50 = ⟨none, 8, A.M.off⟩) := by
  obtain ⟨a1, a2, a3, a4⟩ := e_app
  obtain ⟨o1, o2⟩ := e_opn 0 50 (by decide)
  have y0 : DY eM0 := new_DY _
  have n0 : eM0.now.length = 50 := e_gd.1.n
  have w0 : eM0.wait.length = 0 := rfl
  have k1 : eL.Ok eM1.now.length := opn_ok (M := eM0) (fr := 0) (n := 50) y0 (by omega) o2
  have y1 : DY eM1 := opn_DY y0 0 50
  have w1 : eM1.wait.length ≤ 1 := by have := opn_wait (M := eM0) 0 50; show (opn eM0 0 50).M.wait.length ≤ 1; omega
  have bz : Byt (List.replicate 16384 (0 : Int)) := fun x hx => by rw [(List.mem_replicate.1 hx).2]; decide
  obtain ⟨p, _⟩ := append_ok' eL eM1 bz
  have k2 : eA.L.Ok eA.M.now.length := append_Ok k1 bz (by decide)
  have w2 : eA.M.wait.length ≤ 50 := by have : eA.M.wait.length ≤ eM1.wait.length + 40 := p.w; omega
  refine ⟨eL, eM1, eA, eM0, ⟨rfl, rfl, o2, o1, k1, y1, w1, rfl, y0, w0⟩, ⟨fun l hl => ?_⟩, ⟨fun l hl => by rw [hl]; rfl⟩, a1, ⟨k2, p.y y1, w2, ?_, ?_⟩⟩
  · unfold LA.append
    rw [if_pos (by rw [hl, List.length_replicate]; decide)]
  · unfold LA.cut
    rw [if_pos (by rw [a2]; right; decide)]
  · unfold opn
    have hn : eA.M.off.now.length = 50 := a4
    rw [if_neg (by rw [hn]; decide)]
    have ha : eA.M.off.ask 0 = 8 := by
      unfold DA.ask
      rw [hn, if_neg (by decide), if_pos (show eA.M.off.down = true from rfl)]
    have hr : eA.M.off.rdE 0 = 8 := by
      unfold DA.rdE
      rw [ha, if_neg (by decide)]
    have hm : (⟨0, 50 - 2, 0, 0, 0, 0, 0, 0⟩ : LA).ms eA.M.off 0 = ⟨0, 0, 0, 0, false, 8⟩ := by
      unfold LA.ms
      show (if eA.M.off.rdE (0 + 0) = 0 then _ else _) = _
      rw [show (0 : Int) + 0 = 0 from rfl, hr, if_neg (by decide), if_neg (by decide)]
    unfold LA.opn1
    show (if (((⟨0, 50 - 2, 0, 0, 0, 0, 0, 0⟩ : LA)).ms eA.M.off 0).e ≠ 0 then _ else _) = _
    rw [if_pos (by rw [hm]; decide)]
    show (⟨none, ((⟨0, 50 - 2, 0, 0, 0, 0, 0, 0⟩ : LA).ms eA.M.off 0).e, eA.M.off⟩ : OpR) = _
    rw [hm]
theorem infoB' : (Try.prog.info? 5).map (fun i => (i.zero, i.size, i.bytes)) = some (some (.int .u8 0), 1, 1) := by kernel_rfl
/-- make([]byte, m), inside a fence. -/
theorem make_in {F : Fence} {n : Nat} {ops : Array Oper} {rest : List Oper} {o : Oper} {a : Act} {Q : Exit → Act → World → Prop} {W : World} (hg : o.guard = none) (x y : Operand) (hop : o.op = .makeSlice 22 x y) (m : Nat) (hx : a.eval x = .int .i64 (m : Int)) (hy : a.eval y = .int .i64 (m : Int)) (hm : m ≤ 281474976710656)
    (h : ∀ (l : List Int) (w1 : World), l = List.replicate m 0 → Rb W w1 (.slice (some ⟨W.heap.size, 0, none⟩) l.length m) l → Below W.heap.size W w1 → w1.heap.size = W.heap.size + 1 → wpListIn F n Try.prog ops Q rest (a.put o.dst (.slice (some ⟨W.heap.size, 0, none⟩) m m)) w1) :
    wpListIn F n Try.prog ops Q (o :: rest) a W := by
  have hr := print_make_of (P := Try.prog) 22 5 (.int .u8 0) 1 Try.underlying22 infoB' rfl (by decide) m (by omega) W
  have ho := own_made_of (enc := Value.int .u8) (d := (0 : Int)) W W.heap.size 5 m (Nat.le_refl _) (by omega)
  refine wpListIn_plain hg fun K hK => ?_
  unfold Oper.wpIn
  refine ⟨by simp [Oper.about, hop], ?_⟩
  rw [Oper.semAt_plain F _ _ (by rw [hop]; intro c hc; cases hc)]
  simp only [execOp, hop, hx, hy, Sem.run_bind, hr, Result.andThen_ok]
  refine hK _ _ (h (List.replicate m 0) _ rfl ?_ (below_alloc (Below.refl _ _) _) (World.size_alloc _ _))
  have hR := Kd.R_of_own (h1 := fun _ => rfl) (enc := Value.int .u8) (ok := fun _ => True) (xs := List.replicate m (0 : Int)) (by rw [List.length_replicate]; exact ho) (fun _ _ => trivial)
  show (Kd.int .u8).R _ _ _ _ (.slice _ (List.replicate m (0 : Int)).length m) _
  rw [List.length_replicate]
  exact hR
namespace WalErrors
set_option maxRecDepth 100000 in
set_option maxHeartbeats 8000000 in
theorem law_in (fr n lsn : Int) (w : World) (hf0 : -9223372036854775808 ≤ fr) (hf1 : fr < 9223372036854775808) (hn0 : -9223372036854775808 ≤ n) (hn1 : n < 9223372036854775808) (hl0 : 0 ≤ lsn) (hl1 : lsn < 18446744073709551616) :
    CallsIn Fence.wide 4 Try.prog 16 #[.int .i64 fr, .int .i64 n, .int .u64 lsn] w fun e w' => e = .returned (.bool true) ∧ Below w.heap.size w w' := by
  obtain ⟨L, M1, A, M0, H0, HA1, HA2, ea, HX⟩ := e_all
  replace ea := Aside0.mk ea
  obtain ⟨E, hE⟩ : ∃ E, E = (opn M0 fr n).e := ⟨_, rfl⟩
  have HE := Aside0.mk hE
  have HF := Aside0.mk (And.intro hn1 hn0)
  have hc : (E = 0 ∧ decide (2 < n) = true ∧ decide (0 ≤ fr) = true ∧ decide (fr ≤ 50) = true ∧ decide (n ≤ 50 - fr) = true ∧ IntKind.i64.wrap (50 - fr) = 50 - fr) ∨ (E = 1 ∧ decide (2 < n) = false) ∨ (E = 1 ∧ decide (2 < n) = true ∧ decide (0 ≤ fr) = false) ∨ (E = 1 ∧ decide (2 < n) = true ∧ decide (0 ≤ fr) = true ∧ decide (fr ≤ 50) = false) ∨
      (E = 1 ∧ decide (2 < n) = true ∧ decide (0 ≤ fr) = true ∧ decide (fr ≤ 50) = true ∧ decide (n ≤ 50 - fr) = false ∧ IntKind.i64.wrap (50 - fr) = 50 - fr) := by
    rw [hE, H0.out.1]
    by_cases a1 : 2 < n
    · by_cases a2 : 0 ≤ fr
      · by_cases a3 : fr ≤ 50
        · by_cases a4 : n ≤ 50 - fr
          · exact .inl ⟨(e_opn fr n ⟨a1, a2, a4⟩).1, decide_eq_true a1, decide_eq_true a2, decide_eq_true a3, decide_eq_true a4, wi64 (by omega) (by omega)⟩
          · exact .inr (.inr (.inr (.inr ⟨e_no fr n (by omega), decide_eq_true a1, decide_eq_true a2, decide_eq_true a3, decide_eq_false a4, wi64 (by omega) (by omega)⟩)))
        · exact .inr (.inr (.inr (.inl ⟨e_no fr n (by omega), decide_eq_true a1, decide_eq_true a2, decide_eq_false a3⟩)))
      · exact .inr (.inr (.inl ⟨e_no fr n (by omega), decide_eq_true a1, decide_eq_false a2⟩))
    · exact .inr (.inl ⟨e_no fr n (by omega), decide_eq_false a1⟩)
  clear hE hf0 hf1 hn0 hn1 hl0 hl1
  rcases hc with ⟨e0, b1, b2, b3, b4, b5⟩ | ⟨e0, b1⟩ | ⟨e0, b1, b2⟩ | ⟨e0, b1, b2, b3⟩ | ⟨e0, b1, b2, b3, b4, b5⟩
  all_goals
    subst e0
    refine callsIn_of_wp_marks Try.func16 rfl trivial ?_ rfl
    simp only [Try.ntmps16, List.size_toArray, List.length_cons, List.length_nil, Nat.reduceAdd, Nat.reduceSub, Array.replicate_succ, Array.replicate_zero, List.push_toArray, List.append_toArray, List.nil_append, List.cons_append]
    gi_wp2_with fail
    refine ⟨trivial, ?_⟩
    have BR := Aside0.mk (blk_new w (.cells #[.bool false] 4))
    have B0 := Aside0.mk (below_alloc (Below.refl w.heap.size w) (.cells #[.bool false] 4))
    generalize w.alloc _ = wa at BR B0 ⊢
    refine (callsIn_wide.2 (head_ok wa)).mono ?_
    rintro e w1 ⟨rfl, hb⟩
    have BR1 := Aside0.mk ((hb.block _ (blk_lt BR.out)).trans BR.out)
    have B1 := Aside0.mk (below_step B0.out hb)
    clear hb BR B0
    gi_wp2_with fail
    refine ⟨trivial, ?_⟩
    refine (callsIn_wide.2 (st_new (w0 := w) _ _ B1.out)).mono ?_
    rintro e w2 ⟨g, S, rfl, hi, hb, hs⟩
    rw [show DA.new (newN 50).toNat = M0 from H0.out.1.symm] at hi
    have HI := Aside0.mk hi
    have BR2 := Aside0.mk ((hb.block _ (blk_lt BR1.out)).trans BR1.out)
    have HS := Aside0.mk (show ¬ S w.heap.size from fun h => by have := hs _ h; have := blk_lt BR1.out; omega)
    clear hi hb hs BR1 B1
    gi_wp2_with fail
    refine ⟨trivial, ?_⟩
    refine (callsIn_wide.2 (open_l HI.out H0.out.2.2.2.2.2.2.2.2.1 (by rw [H0.out.2.2.2.2.2.2.2.2.2]; decide) fr n HF.out.1 HF.out.2)).mono ?_
    rintro e w3 ⟨vl, he, hk, _⟩
    rw [← HE.out] at he
    subst he
    have BR3 := Aside0.mk ((hk.block _ (blk_lt BR2.out) HS.out).trans BR2.out)
    have B3 := Aside0.mk (HI.out.I.after hk HI.out.B HI.out.B.size)
    clear hk BR2 HI HS
    gi_wp2_with fail
    refine ⟨trivial, ?_⟩
    refine (callsIn_wide.2 (st_new (w0 := w) _ _ B3.out)).mono ?_
    rintro e w4 ⟨g2, S2, rfl, hi, hb, hs⟩
    rw [show DA.new (newN 50).toNat = M0 from H0.out.1.symm] at hi
    have HI := Aside0.mk hi
    have BR4 := Aside0.mk ((hb.block _ (blk_lt BR3.out)).trans BR3.out)
    have HS := Aside0.mk (show ¬ S2 w.heap.size from fun h => by have := hs _ h; have := blk_lt BR3.out; omega)
    clear hi hb hs BR3 B3
    gi_wp2_with fail
    refine ⟨trivial, ?_⟩
    refine (callsIn_wide.2 (open_s HI.out H0.out.2.2.2.2.2.2.2.2.1 (by rw [H0.out.2.2.2.2.2.2.2.2.2]; decide) 0 50 (by decide) (by decide) H0.out.2.2.1)).mono ?_
    rw [H0.out.2.2.2.1]
    rintro e w5 ⟨p, S5, rfl, hp, hl, hs, hk⟩
    have HL := Aside0.mk (show Lg w w5 p g2 S5 L M1 by rw [H0.out.2.1]; exact hl)
    have BR := Aside0.mk ((hk.block _ (blk_lt BR4.out) HS.out).trans BR4.out)
    have HN := Aside0.mk (show ¬ (S5 w.heap.size ∨ w.heap.size = p) from fun h => by
      have := blk_lt BR4.out
      rcases h with h | h
      · rcases hs _ h with h2 | h2
        · exact HS.out h2
        · omega
      · omega)
    clear hp hl hs hk BR4 HI HS
    gi_wp2_with (gi_at_make; refine make_in rfl _ _ rfl 16385 rfl rfl (by decide) ?_; intro l wm hl hr hb hsz; have HLm := Aside0.mk (HL.out.below hb); have HRm := Aside0.mk hr; have HZ := Aside0.mk hl; have HBR := Aside0.mk ((hb.block _ (blk_lt BR.out)).trans BR.out); clear hl hr hb hsz)
    refine ⟨trivial, ?_⟩
    have hlen6 : l.length = 16385 := by rw [HZ.out, List.length_replicate]
    refine (callsIn_wide.2 (calls_of_args (args' := #[.pointer (some ⟨p, 0, none⟩), .slice (some ⟨w5.heap.size, 0, none⟩) l.length 16385]) (by rw [hlen6]) (append_l HLm.out H0.out.2.2.2.2.1 _ 16385 l (fun W' hk => rb_kept HRm.out hk (fun k hk2 => hk2.elim (fun h => (HL.out.D.lt k h).2) (fun h => by rw [h]; exact HL.out.lt))) (by omega) (by rw [HZ.out]; intro x hx; rw [(List.mem_replicate.1 hx).2]; decide) (by have := H0.out.2.2.2.2.2.2.1; omega) (by have := H0.out.2.2.2.2.2.2.2.1; omega)))).mono ?_
    rw [HA1.out l HZ.out]
    rintro e w6 ⟨rfl, S6, hl, hs, hk⟩
    have HL6 := Aside0.mk (show Lg w w6 p g2 S6 L M1 from hl)
    have BR6 := Aside0.mk ((hk.block _ (blk_lt HBR.out) HN.out).trans HBR.out)
    have HN6 := Aside0.mk (show ¬ (S6 w.heap.size ∨ w.heap.size = p) from fun h => by
      have := blk_lt HBR.out
      rcases h with h | h
      · rcases hs _ h with h2 | h2
        · exact HN.out (.inl h2)
        · omega
      · exact HN.out (.inr h))
    clear hl hs hk hlen6 HLm HRm HZ HBR HL HN
    gi_wp2_with (gi_at_make; refine make_in rfl _ _ rfl 16384 rfl rfl (by decide) ?_; intro l7 wm7 hl hr hb hsz; have HLm7 := Aside0.mk (HL6.out.below hb); have HRm7 := Aside0.mk hr; have HZ7 := Aside0.mk hl; have HBR7 := Aside0.mk ((hb.block _ (blk_lt BR6.out)).trans BR6.out); clear hl hr hb hsz)
    refine ⟨trivial, ?_⟩
    have hlen8 : l7.length = 16384 := by rw [HZ7.out, List.length_replicate]
    refine (callsIn_wide.2 (calls_of_args (args' := #[.pointer (some ⟨p, 0, none⟩), .slice (some ⟨w6.heap.size, 0, none⟩) l7.length 16384]) (by rw [hlen8]) (append_l HLm7.out H0.out.2.2.2.2.1 _ 16384 l7 (fun W' hk => rb_kept HRm7.out hk (fun k hk2 => hk2.elim (fun h => (HL6.out.D.lt k h).2) (fun h => by rw [h]; exact HL6.out.lt))) (by omega) (by rw [HZ7.out]; intro x hx; rw [(List.mem_replicate.1 hx).2]; decide) (by have := H0.out.2.2.2.2.2.2.1; omega) (by have := H0.out.2.2.2.2.2.2.2.1; omega)))).mono ?_
    rw [HA2.out l7 HZ7.out, ea.out]
    rintro e w8 ⟨rfl, S8, hl, hs, hk⟩
    have HL8 := Aside0.mk (show Lg w w8 p g2 S8 A.L A.M from hl)
    have BR8 := Aside0.mk ((hk.block _ (blk_lt HBR7.out) HN6.out).trans HBR7.out)
    have HN8 := Aside0.mk (show ¬ (S8 w.heap.size ∨ w.heap.size = p) from fun h => by
      have := blk_lt HBR7.out
      rcases h with h | h
      · rcases hs _ h with h2 | h2
        · exact HN6.out (.inl h2)
        · omega
      · exact HN6.out (.inr h))
    clear hl hs hk hlen8 HLm7 HRm7 HZ7 HBR7 HL6 HN6
    clear BR6 BR
    gi_wp2_with fail
    refine ⟨trivial, ?_⟩
    refine (callsIn_wide.2 (cut_l HL8.out HX.out.1 HX.out.2.1 36 (by decide) (by decide) (by have := HX.out.2.2.1; omega))).mono ?_
    rw [HX.out.2.2.2.1]
    rintro e w9 ⟨rfl, S9, hl, hs, hk⟩
    have HL9 := Aside0.mk (show Lg w w9 p g2 S9 A.L A.M from hl)
    have BR9 := Aside0.mk ((hk.block _ (blk_lt BR8.out) HN8.out).trans BR8.out)
    have HN9 := Aside0.mk (show ¬ S9 w.heap.size from fun h => by
      have := blk_lt BR8.out
      rcases hs _ h with h2 | h2
      · exact HN8.out (.inl h2)
      · omega)
    clear hl hs hk HL8 HN8 BR8
    gi_wp2_with fail
    refine ⟨trivial, ?_⟩
    refine (callsIn_wide.2 (st_off HL9.out.D)).mono ?_
    rintro e w10 ⟨rfl, hi, hk⟩
    have HI := Aside0.mk hi
    have BR10 := Aside0.mk ((hk.block _ (blk_lt BR9.out) HN9.out).trans BR9.out)
    clear hi hk HL9 BR9
    gi_wp2_with fail
    refine ⟨trivial, ?_⟩
    refine (callsIn_wide.2 (open_l HI.out (show DY A.M.off from ⟨HX.out.2.1.now, HX.out.2.1.safe, HX.out.2.1.wait⟩) (by have := HX.out.2.2.1; show A.M.wait.length < _; omega) 0 50 (by decide) (by decide))).mono ?_
    rw [HX.out.2.2.2.2]
    rintro e w11 ⟨vo, rfl, hk, _⟩
    have BR11 := Aside0.mk ((hk.block _ (blk_lt BR10.out) HN9.out).trans BR10.out)
    have B11 := Aside0.mk (HI.out.I.after hk HI.out.B HI.out.B.size)
    clear hk HI BR10 HN9
    gi_wp2_with fail
    refine ⟨trivial, ?_⟩
    refine (callsIn_wide.2 (nil_append _)).mono ?_
    rintro e w' ⟨rfl, hq⟩
    have hq2 := hq.symm
    clear hq
    subst hq2
    gi_wp2_with fail
    refine ⟨trivial, ?_⟩
    refine (nil_all lsn).mono ?_
    rintro e w12 ⟨rfl, hq⟩
    have hbx := Boxed.new w11 52 (.pointer none)
    have hbA := hbx.alloc (.cells #[.int .u64 lsn] 55)
    rw [← hq] at hbA
    have BR12 := Aside0.mk (show Boxed w12 w.heap.size 4 (.bool false) by rw [hq]; exact ((show Boxed w11 w.heap.size 4 (.bool false) from BR11.out).alloc _).alloc _)
    have B12 := Aside0.mk (show Below w.heap.size w w12 by rw [hq]; exact below_alloc (below_alloc B11.out _) _)
    obtain ⟨kb, hkb⟩ : ∃ k, k = w11.heap.size := ⟨_, rfl⟩
    rw [← hkb] at hbA ⊢
    clear hq hbx BR11 B11 hkb
    gi_wp2_with fail
    have hlw := blk_lt BR12.out
    refine range_H (n := 4) rfl (by decide) (gf := 58) (lb := #[.pointer (some ⟨kb, 0, none⟩), .pointer (some ⟨kb + 1, 0, none⟩)]) rfl trivial (enters_of Try.func58 (by kernel_rfl) rfl) (nil_s 3 kb (kb + 1) hbA.cell)
      (fun _ _ => trivial) (fun _ _ _ _ _ _ _ => trivial) (fun _ => rfl) (fun _ _ _ _ _ _ hx _ _ => hx)
      (fun pre W => Boxed W w.heap.size 4 (.bool false) ∧ Below w.heap.size w W) (fun _ _ _ => False)
      (OwnFrom.and (Own.from (boxed_own _ _ _) _) (ownFrom_below (Nat.le_refl _) (by omega))) (fun _ _ _ _ _ hs _ _ => hs)
      ⟨BR12.out, B12.out⟩ ?_ ?_ ?_ ?_ ?_
    rotate_left
    · intro l x W K hK
      gi_wp2
      exact hK
    · rintro l pre x W _ hx _
      exact hx.elim
    rotate_left
    · rintro D c pre W _ _ h _
      exact h.elim
    · rintro D xs W hD _ ⟨hbx, hB⟩ hKd
      have HK := Aside0.mk hKd
      have HB := Aside0.mk hB
      have HX2 := Aside0.mk hbx
      have c6 := hbx.cell
      have f6 := hbx.frozen
      have HD := Aside0.mk hD
      clear hbA BR12 B12 hKd hB hbx hD
      gi_wp2_with fail
      refine ⟨trivial, ?_⟩
      refine (callsIn_wide.2 nil_force).mono ?_
      rintro e w' ⟨rfl, hq⟩
      have hq2 := hq.symm
      clear hq
      subst hq2
      gi_wp2_with fail
      refine ⟨trivial, ?_⟩
      refine (callsIn_wide.2 (nil_cut _)).mono ?_
      rintro e w' ⟨rfl, hq⟩
      have hq2 := hq.symm
      clear hq
      subst hq2
      gi_wp2_with fail
      refine ⟨trivial, ?_⟩
      refine (callsIn_wide.2 nil_free).mono ?_
      rintro e w' ⟨rfl, hq⟩
      have hq2 := hq.symm
      clear hq
      subst hq2
      gi_wp2_with fail
      refine ⟨trivial, ?_⟩
      refine (callsIn_wide.2 nil_room).mono ?_
      rintro e w' ⟨rfl, hq⟩
      have hq2 := hq.symm
      clear hq
      subst hq2
      gi_wp2_with fail
      refine ⟨trivial, ?_⟩
      refine (callsIn_wide.2 nil_start).mono ?_
      rintro e w' ⟨rfl, hq⟩
      have hq2 := hq.symm
      clear hq
      subst hq2
      gi_wp2_with fail
      refine ⟨trivial, ?_⟩
      refine (callsIn_wide.2 nil_next).mono ?_
      rintro e w' ⟨rfl, hq⟩
      have hq2 := hq.symm
      clear hq
      subst hq2
      gi_wp2_with fail
      refine ⟨trivial, ?_⟩
      refine (callsIn_wide.2 nil_safe).mono ?_
      rintro e w' ⟨rfl, hq⟩
      have hq2 := hq.symm
      clear hq
      subst hq2
      gi_wp2_with fail
      refine ⟨trivial, ?_⟩
      refine (callsIn_wide.2 nil_life).mono ?_
      rintro e w' ⟨rfl, hq⟩
      have hq2 := hq.symm
      clear hq
      subst hq2
      gi_wp2
      refine ⟨by simp, .inl ⟨_, _, rfl, run_takeDeferred ((KeepsOthers.setCell _ _ _).same D _ HK.out rfl), ?_⟩⟩
      have hb2 := HX2.out.set (.bool true)
      have hk2 := (KeepsOthers.setCell W ⟨w.heap.size, 0, none⟩ (.bool true)).same D _ HK.out rfl
      have hb3 : Boxed ((W.setCell ⟨w.heap.size, 0, none⟩ (.bool true)).putObj D (.deferred none)) w.heap.size 4 (.bool true) := (World.putObj_heap_other (by have := HD.out; omega)).trans hb2
      have hB2 : Below w.heap.size w (W.setCell ⟨w.heap.size, 0, none⟩ (.bool true)) := below_set HB.out (Nat.le_refl _)
      refine ⟨.bool true, ?_, rfl, hB2.trans (belowK_b (w := w12) (by omega) _ D _ _ HD.out hk2 rfl rfl)⟩
      have hc3 := hb3.cell
      clear hb2 hk2 hb3 hB2 HK HB HX2 HD c6 f6
      simp [results, go_sem, hc3]
theorem law_ok (fr n lsn : Int) (w : World) (hf : (Lit.int .i64 fr).wf = true) (hn : (Lit.int .i64 n).wf = true) (hl : (Lit.int .u64 lsn).wf = true) :
    Calls Try.prog 16 #[.int .i64 fr, .int .i64 n, .int .u64 lsn] w fun e w' => e = .returned (.bool true) ∧ Below w.heap.size w w' := by
  obtain ⟨a0, a1⟩ := bounds_i64 hf
  obtain ⟨b0, b1⟩ := bounds_i64 hn
  obtain ⟨c0, c1⟩ := bounds_u64 hl
  exact callsIn_wide.1 (law_in fr n lsn w a0 (by omega) b0 (by omega) c0 (by omega))
end WalErrors
end Go.Proofs.Ytihmfccpgahmaaa.Wal
