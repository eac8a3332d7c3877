/- The law DiskSafe, walked: true, for whatever bytes, operations, truths and number. -/
import Derived.Test.YtihmfccpgahmaaaDkOp
import Derived.Deep.QuietTactic
import Derived.BigQuiet
namespace Go.Proofs.Ytihmfccpgahmaaa.Dk
open Go Go.RowKit Go.Proofs.YtihmfccpgahmaaaW.PrintWords Go.Proofs.YtihmfccpgahmaaaW.PrintMore Go.Proofs.YtihmfccpgahmaaaW.PrintLast Go.Proofs.Ytihmfccpgahmaaa.Str
set_option linter.unusedVariables false
set_option linter.unusedSimpArgs false
namespace DiskSafe
theorem rd_set_ne {α : Type} (d : α) (l : List α) (x : α) (j : Nat) (i : Int) (h : j ≠ i.toNat) : rdOf d (l.set j x) i = rdOf d l i := by
  unfold rdOf
  rw [List.getD_eq_getElem?_getD, List.getElem?_set_ne h, List.getD_eq_getElem?_getD]
/-- Sector 7 is as it was. -/
structure Inv (a : List Int) (n : Nat) (M : DA) : Prop where
  n8 : M.now.length = 8
  now7 : rdOf [] M.now 7 = a
  torn7 : rdOf false M.torn 7 = false
  safe7 : rdOf [] M.safe 7 = a
  bad7 : rdOf false M.bad 7 = false
  w7 : ∀ x ∈ M.wait, x.1.toNat ≠ 7
  fu : M.fuse = 0
  dn : M.down = false
  wl : M.wait.length ≤ n
theorem step_fu {M : DA} (h : M.fuse = 0) : M.step = { M with work := wrap64 (M.work + 1) } := by
  unfold DA.step
  rw [if_neg (by omega), if_neg (by omega)]
theorem Inv.wr {a : List Int} {n : Nat} {M : DA} (h : Inv a n M) (i : Int) (hi : i ≠ 7) (l : List Int) : Inv a (n + 1) (M.wr i l) := by
  unfold DA.wr
  split
  · rename_i hc
    have hr : 0 ≤ i := by
      have := hc.1
      unfold DA.ask at this
      split at this
      · cases this
      · omega
    have hne : i.toNat ≠ (7 : Int).toNat := by
      show i.toNat ≠ 7
      omega
    rw [step_fu h.fu]
    exact {
      n8 := by show (M.now.set _ _).length = 8; rw [List.length_set]; exact h.n8
      now7 := (rd_set_ne _ _ _ _ _ hne).trans h.now7
      torn7 := (rd_set_ne _ _ _ _ _ hne).trans h.torn7
      safe7 := h.safe7
      bad7 := h.bad7
      w7 := fun x hx => by
        rcases List.mem_append.1 hx with h1 | h1
        · exact h.w7 x h1
        · rw [List.mem_singleton.1 h1]; exact hne
      fu := h.fu
      dn := h.dn
      wl := by show (M.wait ++ [(i, l)]).length ≤ n + 1; rw [List.length_append]; have := h.wl; simp; omega }
  · exact { h with wl := Nat.le_succ_of_le h.wl }
theorem lay_7 {M : DA} {x : Int × List Int} (hx : x.1.toNat ≠ 7) : rdOf [] (M.lay x).safe 7 = rdOf [] M.safe 7 ∧ rdOf false (M.lay x).bad 7 = rdOf false M.bad 7 :=
  ⟨rd_set_ne _ _ _ _ _ hx, rd_set_ne _ _ _ _ _ hx⟩
theorem fold_7 (l : List (Int × List Int)) : ∀ M : DA, (∀ x ∈ l, x.1.toNat ≠ 7) → rdOf [] (l.foldl DA.lay M).safe 7 = rdOf [] M.safe 7 ∧ rdOf false (l.foldl DA.lay M).bad 7 = rdOf false M.bad 7 ∧ (l.foldl DA.lay M).now = M.now ∧ (l.foldl DA.lay M).torn = M.torn ∧ (l.foldl DA.lay M).fuse = M.fuse ∧ (l.foldl DA.lay M).down = M.down := by
  induction l with
  | nil => intro M _; exact ⟨rfl, rfl, rfl, rfl, rfl, rfl⟩
  | cons x l ih =>
    intro M h
    obtain ⟨h1, h2, h3, h4, h5, h6⟩ := ih (M.lay x) (fun y hy => h y (List.mem_cons_of_mem _ hy))
    obtain ⟨g1, g2⟩ := lay_7 (M := M) (h x (List.mem_cons_self ..))
    exact ⟨h1.trans g1, h2.trans g2, h3, h4, h5, h6⟩
theorem Inv.sy {a : List Int} {n : Nat} {M : DA} (h : Inv a n M) : Inv a n M.sy := by
  unfold DA.sy
  rw [if_neg (by rw [h.dn]; decide), if_neg (by rw [h.fu]; decide), step_fu h.fu]
  obtain ⟨h1, h2, h3, h4, h5, h6⟩ := fold_7 M.wait { M with work := wrap64 (M.work + 1) } h.w7
  exact {
    n8 := by show (List.foldl DA.lay _ _).now.length = 8; rw [h3]; exact h.n8
    now7 := by show rdOf [] (List.foldl DA.lay _ _).now 7 = a; rw [h3]; exact h.now7
    torn7 := by show rdOf false (List.foldl DA.lay _ _).torn 7 = false; rw [h4]; exact h.torn7
    safe7 := h1.trans h.safe7
    bad7 := h2.trans h.bad7
    w7 := fun x hx => by cases hx
    fu := h5.trans h.fu
    dn := h6.trans h.dn
    wl := Nat.zero_le _ }
theorem Inv.syE {a : List Int} {n : Nat} {M : DA} (h : Inv a n M) : M.syE = 0 := by
  unfold DA.syE DA.stepE
  rw [if_neg (by rw [h.dn]; decide), if_neg (by rw [h.fu]; decide)]
theorem onP_7 (keep : List Bool) (tear : Int) (M : DA) (k : Nat) (x : Int × List Int) (hx : x.1.toNat ≠ 7) : rdOf [] (DA.onP keep tear M k x).safe 7 = rdOf [] M.safe 7 ∧ rdOf false (DA.onP keep tear M k x).bad 7 = rdOf false M.bad 7 := by
  unfold DA.onP
  split
  · exact lay_7 hx
  · split
    · exact ⟨rfl, rd_set_ne _ _ _ _ _ hx⟩
    · exact ⟨rfl, rfl⟩
theorem onK_7 (keep : List Bool) (tear : Int) (M : DA) (h : ∀ x ∈ M.wait, x.1.toNat ≠ 7) (k : Nat) : rdOf [] (DA.onK keep tear M k).safe 7 = rdOf [] M.safe 7 ∧ rdOf false (DA.onK keep tear M k).bad 7 = rdOf false M.bad 7 := by
  induction k with
  | zero => exact ⟨rfl, rfl⟩
  | succ k ih =>
    have hx : (M.wait.getD k (0, [])).1.toNat ≠ 7 := by
      rw [List.getD_eq_getElem?_getD]
      cases he : M.wait[k]? with
      | none => decide
      | some x => exact h x (List.mem_of_getElem? he)
    obtain ⟨h1, h2⟩ := onP_7 keep tear (DA.onK keep tear M k) k _ hx
    exact ⟨h1.trans ih.1, h2.trans ih.2⟩
theorem on_len (keep : List Bool) (tear : Int) (M : DA) (k : Nat) : (DA.onK keep tear M k).safe.length = M.safe.length := by
  induction k with
  | zero => rfl
  | succ k ih =>
    show (DA.onP keep tear (DA.onK keep tear M k) k _).safe.length = _
    rw [← ih]
    unfold DA.onP
    split
    · simp [DA.lay]
    · split <;> rfl
theorem Inv.on {a : List Int} {n : Nat} {M : DA} (h7 : rdOf [] M.safe 7 = a) (hb : rdOf false M.bad 7 = false) (hw : ∀ x ∈ M.wait, x.1.toNat ≠ 7) (hl : M.safe.length = 8) (keep : List Bool) (tear : Int) : Inv a 0 (M.on keep tear) := by
  obtain ⟨h1, h2⟩ := onK_7 keep tear M hw M.wait.length
  exact {
    n8 := (on_len keep tear M _).trans hl
    now7 := h1.trans h7
    torn7 := h2.trans hb
    safe7 := h1.trans h7
    bad7 := h2.trans hb
    w7 := fun x hx => by cases hx
    fu := rfl
    dn := rfl
    wl := Nat.le_refl _ }
theorem Inv.rd {a : List Int} {n : Nat} {M : DA} (h : Inv a n M) : M.rdE 7 = 0 ∧ M.rdB 7 = wholeF a := by
  have ha : M.ask 7 = 0 := by
    unfold DA.ask
    rw [h.n8, if_neg (by omega), if_neg (by rw [h.dn]; decide)]
  have he : M.rdE 7 = 0 := by
    unfold DA.rdE
    rw [if_pos ha, h.torn7]
    rfl
  refine ⟨he, ?_⟩
  unfold DA.rdB
  rw [if_pos he, h.now7]
theorem begin_ (a : List Int) (ha : a.length ≤ 512) : ((DA.new (newN 8).toNat).wr 7 a).sy = ((DA.new (newN 8).toNat).wr 7 a).sy ∧ Inv a 0 ((DA.new (newN 8).toNat).wr 7 a).sy ∧ (DA.new (newN 8).toNat).wrE 7 a.length = 0 ∧ ((DA.new (newN 8).toNat).wr 7 a).syE = 0 ∧ ((DA.new (newN 8).toNat).wr 7 a).wait.length ≤ 1 := by
  have e : (DA.new (newN 8).toNat).wr 7 a = ⟨[[], [], [], [], [], [], [], a], List.replicate 8 false, List.replicate 8 [], List.replicate 8 false, [(7, a)], 0, false, wrap64 (0 + 1)⟩ := by
    unfold DA.wr
    rw [if_pos ⟨rfl, ha⟩]
    rfl
  rw [e]
  refine ⟨rfl, ⟨rfl, rfl, rfl, rfl, rfl, fun x hx => (by cases hx), rfl, rfl, Nat.le_refl _⟩, ?_, rfl, Nat.le_refl _⟩
  unfold DA.wrE
  rw [show (DA.new (newN 8).toNat).ask 7 = 0 from rfl, if_neg (by omega), if_pos rfl]
  rfl

def dksf12.T12 : Bool × List (List Nat × List Nat) := (true, [([], []), ([], []), ([], []), ([1, 2], [1, 2]), ([3], [3]), ([4], [4]), ([], []), ([], []), ([6, 7], [6, 7]), ([8], [8]), ([9], [9]), ([0, 5, 10], [0, 5, 10])])
def dksf12.B12 : List Nat := [0, 0, 0, 6, 14, 30, 0, 0, 192, 448, 960, 2047]
theorem dksf12.tab12 : rtab .any (opsOf Try.f4 12) = dksf12.T12 := by kernel_rfl
theorem dksf12.bits12 : waitsOk dksf12.T12.2 dksf12.B12 = true := by kernel_rfl
set_option maxRecDepth 100000 in
set_option maxHeartbeats 4000000 in
theorem law_ok (A0 : Option Addr) (c0 : Nat) (a : List Int) (A1 : Option Addr) (c1 : Nat) (ops : List OpV) (A2 : Option Addr) (c2 : Nat) (keep : List Bool) (tear : Int) (w : World)
    (hca : a.length ≤ c0) (hCa : Kd.C (Kd.int .u8) w A0 a.length a) (hwa : ∀ x ∈ a, (Lit.int .u8 x).wf = true) (hco : ops.length ≤ c1) (hCo : Kd.C kOp w A1 ops.length ops) (hwo : ∀ x ∈ ops, OpOk x) (hck : keep.length ≤ c2) (hCk : Kd.C Kd.bool w A2 keep.length keep) (hwk : ∀ x ∈ keep, True) (hte : (Lit.int .i64 tear).wf = true) :
    Calls Try.prog 4 #[.slice A0 a.length c0, .slice A1 ops.length c1, .slice A2 keep.length c2, .int .i64 tear] w fun e w' => e = .returned (.bool true) ∧ Below w.heap.size w w' := by
  have hA := hCa.2.1
  have hO := hCo.2.1
  have hK := hCk.2.1
  by_cases hs : a.length ≤ 512
  case neg =>
    have t1 : decide (512 < a.length) = true := decide_eq_true (by omega)
    have u1 : decide ((512 : Int) < (a.length : Int)) = true := decide_eq_true (by omega)
    clear hs hCa hwa hca hco hCo hwo hck hCk hwk hte
    go_enter Try.func4, Try.ntmps4
    go_wp2_with fail
    refine (head_ok _).mono ?_
    rintro e w0 ⟨rfl, hb⟩
    have HB := Aside0.mk hb
    clear hb
    go_wp2
    go_ret
    exact ⟨rfl, HB.out⟩
  have HL := Aside0.mk hs
  have t1 : decide (512 < a.length) = false := decide_eq_false (by omega)
  have u1 : decide ((512 : Int) < (a.length : Int)) = false := decide_eq_false (by omega)
  have HCA := Aside0.mk hCa
  have HCO := Aside0.mk hCo
  have HCK := Aside0.mk hCk
  have HCC := Aside0.mk (And.intro hca (And.intro hco hck))
  have HKL := Aside0.mk hK
  clear hCa hCo hCk hwa hwo hwk hs hca hco hck hte
  go_enter Try.func4, Try.ntmps4
  go_wp2_with fail
  refine (head_ok _).mono ?_
  rintro e w0 ⟨rfl, hb⟩
  have HB := Aside0.mk hb
  clear hb
  go_wp2_with fail
  refine (st_new (w0 := w) _ _ HB.out).mono ?_
  rintro e w1 ⟨g, S, rfl, hi, _, _⟩
  obtain ⟨_, hinv, e1, e2, e3⟩ := begin_ a HL.out
  obtain ⟨M0, hM0⟩ : ∃ M, M = DA.new (newN 8).toNat := ⟨_, rfl⟩
  rw [← hM0] at hi hinv e1 e2 e3
  have HI := Aside0.mk hi
  have HW0 := Aside0.mk (show M0.wait.length = 0 by rw [hM0]; rfl)
  have HINV := Aside0.mk hinv
  have HE := Aside0.mk (And.intro e1 (And.intro e2 e3))
  clear hi hM0 HB hinv e1 e2 e3
  go_wp2_with fail
  refine (st_write HI.out 7 A0 c0 a (fun W' hk => Kd.C_below HCA.out (HI.out.I.after hk HI.out.B HI.out.B.size)) HCC.out.1 (by rw [HW0.out]; omega)).mono ?_
  rintro e w2 ⟨he, S2, hi, _, _⟩
  rw [HE.out.1] at he
  subst he
  clear HI
  have HI := Aside0.mk hi
  clear hi
  go_wp2_with fail
  refine (st_sync HI.out (by have := HE.out.2.2; omega)).mono ?_
  rintro e w3 ⟨he, hi, _⟩
  rw [HE.out.2.1] at he
  subst he
  clear HI
  have HI := Aside0.mk hi
  clear hi HE
  go_wp2
  go_loopw [10] (fun i wr => ∃ k : Nat, k ≤ 20 ∧ k ≤ ops.length ∧ i = .int .i64 k ∧ Aside0 (∃ S M, St w wr g S M ∧ Inv a k M)) (fun i _ => 20 - (intOf i).toNat)
  case atStart => exact ⟨0, Nat.zero_le _, Nat.zero_le _, rfl, ⟨S2, _, HI.out, HINV.out⟩⟩
  case round =>
    obtain ⟨k, hk, hko, rfl, hR⟩ := hrel
    clear HI HINV
    obtain ⟨S1, M, hS1, hinv⟩ := hR.out
    have HI := Aside0.mk hS1
    have HINV := Aside0.mk hinv
    clear hS1 hR hinv
    by_cases hlt : k < ops.length ∧ k < 20
    · obtain ⟨hl1, hl2⟩ := hlt
      have b20 : decide ((k : Int) < 20) = true := decide_eq_true (by omega)
      obtain ⟨ad, bA, bc, kA, kc, hA1, d0, d1, d2, d3, d4, f1, f2, f3, f4⟩ := op_at HCO.out k hl1
      subst hA1
      obtain ⟨o, ho⟩ : ∃ o, o = ops[k] := ⟨_, rfl⟩
      rw [← ho] at d0 d1 d2 d3 d4 f1 f2 f3 f4
      have hbc := Aside0.mk f1
      have hcb := Aside0.mk f2
      have hwl := Aside0.mk (show M.wait.length < 1000000 by have := HINV.out.wl; omega)
      have x0 := up_cell HI.out.B d0
      have x1 := up_cell HI.out.B d1
      have x2 := up_cell HI.out.B d2
      replace d0 := Aside0.mk d0
      replace d1 := Aside0.mk d1
      replace d2 := Aside0.mk d2
      clear ho d3 d4 f1 f2 f3 f4
      by_cases h7 : o.at_ = 7 ∨ 512 < o.b.length
      · have hb : (o.at_ != 7) = false ∨ ((o.at_ != 7) = true ∧ decide (o.b.length ≤ 512) = false ∧ decide ((o.b.length : Int) ≤ 512) = false ∧ decide (512 < o.b.length) = true) := by
          by_cases h : o.at_ = 7
          · exact .inl (by simp [h])
          · exact .inr ⟨by simp [h], decide_eq_false (by omega), decide_eq_false (by omega), decide_eq_true (by omega)⟩
        by_cases h2 : o.k = 2
        · have b2 : (o.k == 2) = true := by simp [h2]
          clear h2 h7
          rcases hb with b7 | ⟨b7, b5, b6, b8⟩
          all_goals
            go_wp2_with fail
            refine (st_sync HI.out (by have := hwl.out; omega)).mono ?_
            rintro e w5 ⟨rfl, hi, _⟩
            have HN := Aside0.mk hi
            clear hi HI x0 x1 x2
            go_wp2
            go_roundw
            case rel => exact ⟨k + 1, hl2, hl1, by go_num, ⟨S1, _, HN.out, { HINV.out.sy with wl := Nat.le_succ_of_le HINV.out.sy.wl }⟩⟩
            case measure => simp [intOf]; omega
        · have b2 : (o.k == 2) = false := by simpa using h2
          clear h2 h7
          rcases hb with b7 | ⟨b7, b5, b6, b8⟩
          all_goals
            go_wp2
            go_roundw
            case rel => exact ⟨k + 1, hl2, hl1, by go_num, ⟨S1, _, HI.out, { HINV.out with wl := Nat.le_succ_of_le HINV.out.wl }⟩⟩
            case measure => simp [intOf]; omega
      · have h7' : o.at_ ≠ 7 := fun h => h7 (.inl h)
        have b7 : (o.at_ != 7) = true := by simp [h7']
        have b5 : decide (o.b.length ≤ 512) = true := decide_eq_true (by omega)
        have b6 : decide ((o.b.length : Int) ≤ 512) = true := decide_eq_true (by omega)
        have b8 : decide (512 < o.b.length) = false := decide_eq_false (by omega)
        replace HINV := Aside0.mk (HINV.out.wr o.at_ h7' o.b)
        clear h7 h7'
        go_upto_region 12 with fail
        clear x0 x1 x2
        refine start_ (n := 12) (S := fun w' => True) (ds := []) #[false, false, false, false, false, false, false, false, false, false, false, false] (by kernel_rfl) rfl rfl trivial (fun hHeld => ?_)
        refine with_tabW dksf12.tab12 dksf12.bits12 (fun HT_ HW_ => ?_)
        have n0_ := Aside0.mk HI.out.drew
        clear HI
        generalize World.drew _ = wd at n0_ hHeld ⊢
        have HI := n0_
        clear hHeld n0_
        refine inv_at [0, 1, 2, 3, 4, 5, 6, 7, 8, 9, 10, 11] (fun a0_ b a w' => a = putSel a0_ b [(0, 54, .pointer (some ⟨g, 0, none⟩)), (1, 55, .slice (some ad) ops.length c1), (2, 56, .int .i64 (k : Int)), (3, 57, .pointer (some (ad.add (k * 5)))), (4, 58, .pointer (some ⟨(ad.add (k * 5)).block, (ad.add (k * 5)).off + 1, none⟩)), (5, 59, .int .i64 o.at_), (6, 60, .slice (some ad) ops.length c1), (7, 61, .int .i64 (k : Int)), (8, 62, .pointer (some (ad.add (k * 5)))), (9, 63, .pointer (some ⟨(ad.add (k * 5)).block, (ad.add (k * 5)).off + 2, none⟩)), (10, 64, .slice bA o.b.length bc), (11, 65, .int .i64 (M.wrE o.at_ o.b.length))] ∧ (b 11 = false → St w w' g S1 M) ∧ (b 11 = true → ∃ S', St w w' g S' (M.wr o.at_ o.b))) HT_.out HW_.out (by kernel_rfl) (by kernel_rfl) ?_ ?_ ?_
        · exact ⟨by simp only [putSel, Bool.false_eq_true, if_false], fun _ => HI.out, fun h_ => absurd h_ (by decide)⟩
        · skip
          clear HI
          refine steps_cons ?_ ?_
          · rintro b a w' ⟨ha, Q_HI, Q_HN⟩ hb_ hon hoff
            refine ⟨_, rfl, fun K hK => ?_⟩
            have e9 : a.tmps[9]? = some (.pointer (some ⟨g, 0, none⟩)) := by rw [ha]; exact (putSel_off rfl).trans rfl
            replace ha := Aside0.mk ha
            have HI := Aside0.mk (Q_HI (hoff 11 (by kernel_rfl)))
            refine value_ (w1 := w') (v := .pointer (some ⟨g, 0, none⟩)) (by rfl) rfl ?_ ?_
            · go_simp
              (try simp only [i64_w])
              try rfl
            refine hK.out _ _ ⟨(by rw [ha.out]; exact putSel_upk 0 hb_ rfl rfl rfl), Q_HI, fun h0_ => absurd ((hoff 11 (by kernel_rfl)).symm.trans h0_) (by decide)⟩
          refine steps_cons ?_ ?_
          · rintro b a w' ⟨ha, Q_HI, Q_HN⟩ hb_ hon hoff
            refine ⟨_, rfl, fun K hK => ?_⟩
            have e1 : a.tmps[1]? = some (.slice (some ad) ops.length c1) := by rw [ha]; exact (putSel_off rfl).trans rfl
            replace ha := Aside0.mk ha
            have HI := Aside0.mk (Q_HI (hoff 11 (by kernel_rfl)))
            refine value_ (w1 := w') (v := .slice (some ad) ops.length c1) (by rfl) rfl ?_ ?_
            · go_simp
              (try simp only [i64_w])
              try rfl
            refine hK.out _ _ ⟨(by rw [ha.out]; exact putSel_upk 1 hb_ rfl rfl rfl), Q_HI, fun h0_ => absurd ((hoff 11 (by kernel_rfl)).symm.trans h0_) (by decide)⟩
          refine steps_cons ?_ ?_
          · rintro b a w' ⟨ha, Q_HI, Q_HN⟩ hb_ hon hoff
            refine ⟨_, rfl, fun K hK => ?_⟩
            have e10 : a.tmps[10]? = some (.int .i64 (k : Int)) := by rw [ha]; exact (putSel_off rfl).trans rfl
            replace ha := Aside0.mk ha
            have HI := Aside0.mk (Q_HI (hoff 11 (by kernel_rfl)))
            refine value_ (w1 := w') (v := .int .i64 (k : Int)) (by rfl) rfl ?_ ?_
            · go_simp
              (try simp only [i64_w])
              try rfl
            refine hK.out _ _ ⟨(by rw [ha.out]; exact putSel_upk 2 hb_ rfl rfl rfl), Q_HI, fun h0_ => absurd ((hoff 11 (by kernel_rfl)).symm.trans h0_) (by decide)⟩
          refine steps_cons ?_ ?_
          · rintro b a w' ⟨ha, Q_HI, Q_HN⟩ hb_ hon hoff
            refine ⟨_, rfl, fun K hK => ?_⟩
            have e55 : a.tmps[55]? = some (.slice (some ad) ops.length c1) := by rw [ha]; exact putSel_on (e := (1, 55, .slice (some ad) ops.length c1)) 1 rfl rfl (hon 1 (by kernel_rfl)) rfl
            have e56 : a.tmps[56]? = some (.int .i64 (k : Int)) := by rw [ha]; exact putSel_on (e := (2, 56, .int .i64 (k : Int))) 2 rfl rfl (hon 2 (by kernel_rfl)) rfl
            replace ha := Aside0.mk ha
            have HI := Aside0.mk (Q_HI (hoff 11 (by kernel_rfl)))
            refine value_ (w1 := w') (v := .pointer (some (ad.add (k * 5)))) (by rfl) rfl ?_ ?_
            · go_simp
              (try simp only [i64_w])
              try rfl
            refine hK.out _ _ ⟨(by rw [ha.out]; exact putSel_upk 3 hb_ rfl rfl rfl), Q_HI, fun h0_ => absurd ((hoff 11 (by kernel_rfl)).symm.trans h0_) (by decide)⟩
          refine steps_cons ?_ ?_
          · rintro b a w' ⟨ha, Q_HI, Q_HN⟩ hb_ hon hoff
            refine ⟨_, rfl, fun K hK => ?_⟩
            have e57 : a.tmps[57]? = some (.pointer (some (ad.add (k * 5)))) := by rw [ha]; exact putSel_on (e := (3, 57, .pointer (some (ad.add (k * 5))))) 3 rfl rfl (hon 3 (by kernel_rfl)) rfl
            replace ha := Aside0.mk ha
            have HI := Aside0.mk (Q_HI (hoff 11 (by kernel_rfl)))
            refine value_ (w1 := w') (v := .pointer (some ⟨(ad.add (k * 5)).block, (ad.add (k * 5)).off + 1, none⟩)) (by rfl) rfl ?_ ?_
            · go_simp
              (try simp only [i64_w])
              try rfl
            refine hK.out _ _ ⟨(by rw [ha.out]; exact putSel_upk 4 hb_ rfl rfl rfl), Q_HI, fun h0_ => absurd ((hoff 11 (by kernel_rfl)).symm.trans h0_) (by decide)⟩
          refine steps_cons ?_ ?_
          · rintro b a w' ⟨ha, Q_HI, Q_HN⟩ hb_ hon hoff
            refine ⟨_, rfl, fun K hK => ?_⟩
            have e58 : a.tmps[58]? = some (.pointer (some ⟨(ad.add (k * 5)).block, (ad.add (k * 5)).off + 1, none⟩)) := by rw [ha]; exact putSel_on (e := (4, 58, .pointer (some ⟨(ad.add (k * 5)).block, (ad.add (k * 5)).off + 1, none⟩))) 4 rfl rfl (hon 4 (by kernel_rfl)) rfl
            replace ha := Aside0.mk ha
            have HI := Aside0.mk (Q_HI (hoff 11 (by kernel_rfl)))
            have hc_ := up_cell HI.out.B d1.out
            refine value_ (w1 := w') (v := .int .i64 o.at_) (by rfl) rfl ?_ ?_
            · go_simp
              (try simp only [i64_w])
              try rfl
            refine hK.out _ _ ⟨(by rw [ha.out]; exact putSel_upk 5 hb_ rfl rfl rfl), Q_HI, fun h0_ => absurd ((hoff 11 (by kernel_rfl)).symm.trans h0_) (by decide)⟩
          refine steps_cons ?_ ?_
          · rintro b a w' ⟨ha, Q_HI, Q_HN⟩ hb_ hon hoff
            refine ⟨_, rfl, fun K hK => ?_⟩
            have e1 : a.tmps[1]? = some (.slice (some ad) ops.length c1) := by rw [ha]; exact (putSel_off rfl).trans rfl
            replace ha := Aside0.mk ha
            have HI := Aside0.mk (Q_HI (hoff 11 (by kernel_rfl)))
            refine value_ (w1 := w') (v := .slice (some ad) ops.length c1) (by rfl) rfl ?_ ?_
            · go_simp
              (try simp only [i64_w])
              try rfl
            refine hK.out _ _ ⟨(by rw [ha.out]; exact putSel_upk 6 hb_ rfl rfl rfl), Q_HI, fun h0_ => absurd ((hoff 11 (by kernel_rfl)).symm.trans h0_) (by decide)⟩
          refine steps_cons ?_ ?_
          · rintro b a w' ⟨ha, Q_HI, Q_HN⟩ hb_ hon hoff
            refine ⟨_, rfl, fun K hK => ?_⟩
            have e10 : a.tmps[10]? = some (.int .i64 (k : Int)) := by rw [ha]; exact (putSel_off rfl).trans rfl
            replace ha := Aside0.mk ha
            have HI := Aside0.mk (Q_HI (hoff 11 (by kernel_rfl)))
            refine value_ (w1 := w') (v := .int .i64 (k : Int)) (by rfl) rfl ?_ ?_
            · go_simp
              (try simp only [i64_w])
              try rfl
            refine hK.out _ _ ⟨(by rw [ha.out]; exact putSel_upk 7 hb_ rfl rfl rfl), Q_HI, fun h0_ => absurd ((hoff 11 (by kernel_rfl)).symm.trans h0_) (by decide)⟩
          refine steps_cons ?_ ?_
          · rintro b a w' ⟨ha, Q_HI, Q_HN⟩ hb_ hon hoff
            refine ⟨_, rfl, fun K hK => ?_⟩
            have e60 : a.tmps[60]? = some (.slice (some ad) ops.length c1) := by rw [ha]; exact putSel_on (e := (6, 60, .slice (some ad) ops.length c1)) 6 rfl rfl (hon 6 (by kernel_rfl)) rfl
            have e61 : a.tmps[61]? = some (.int .i64 (k : Int)) := by rw [ha]; exact putSel_on (e := (7, 61, .int .i64 (k : Int))) 7 rfl rfl (hon 7 (by kernel_rfl)) rfl
            replace ha := Aside0.mk ha
            have HI := Aside0.mk (Q_HI (hoff 11 (by kernel_rfl)))
            refine value_ (w1 := w') (v := .pointer (some (ad.add (k * 5)))) (by rfl) rfl ?_ ?_
            · go_simp
              (try simp only [i64_w])
              try rfl
            refine hK.out _ _ ⟨(by rw [ha.out]; exact putSel_upk 8 hb_ rfl rfl rfl), Q_HI, fun h0_ => absurd ((hoff 11 (by kernel_rfl)).symm.trans h0_) (by decide)⟩
          refine steps_cons ?_ ?_
          · rintro b a w' ⟨ha, Q_HI, Q_HN⟩ hb_ hon hoff
            refine ⟨_, rfl, fun K hK => ?_⟩
            have e62 : a.tmps[62]? = some (.pointer (some (ad.add (k * 5)))) := by rw [ha]; exact putSel_on (e := (8, 62, .pointer (some (ad.add (k * 5))))) 8 rfl rfl (hon 8 (by kernel_rfl)) rfl
            replace ha := Aside0.mk ha
            have HI := Aside0.mk (Q_HI (hoff 11 (by kernel_rfl)))
            refine value_ (w1 := w') (v := .pointer (some ⟨(ad.add (k * 5)).block, (ad.add (k * 5)).off + 2, none⟩)) (by rfl) rfl ?_ ?_
            · go_simp
              (try simp only [i64_w])
              try rfl
            refine hK.out _ _ ⟨(by rw [ha.out]; exact putSel_upk 9 hb_ rfl rfl rfl), Q_HI, fun h0_ => absurd ((hoff 11 (by kernel_rfl)).symm.trans h0_) (by decide)⟩
          refine steps_cons ?_ ?_
          · rintro b a w' ⟨ha, Q_HI, Q_HN⟩ hb_ hon hoff
            refine ⟨_, rfl, fun K hK => ?_⟩
            have e63 : a.tmps[63]? = some (.pointer (some ⟨(ad.add (k * 5)).block, (ad.add (k * 5)).off + 2, none⟩)) := by rw [ha]; exact putSel_on (e := (9, 63, .pointer (some ⟨(ad.add (k * 5)).block, (ad.add (k * 5)).off + 2, none⟩))) 9 rfl rfl (hon 9 (by kernel_rfl)) rfl
            replace ha := Aside0.mk ha
            have HI := Aside0.mk (Q_HI (hoff 11 (by kernel_rfl)))
            have hc_ := up_cell HI.out.B d2.out
            refine value_ (w1 := w') (v := .slice bA o.b.length bc) (by rfl) rfl ?_ ?_
            · go_simp
              (try simp only [i64_w])
              try rfl
            refine hK.out _ _ ⟨(by rw [ha.out]; exact putSel_upk 10 hb_ rfl rfl rfl), Q_HI, fun h0_ => absurd ((hoff 11 (by kernel_rfl)).symm.trans h0_) (by decide)⟩
          refine steps_cons ?_ ?_
          · rintro b a w' ⟨ha, Q_HI, Q_HN⟩ hb_ hon hoff
            refine ⟨_, rfl, fun K hK => ?_⟩
            have e54 : a.tmps[54]? = some (.pointer (some ⟨g, 0, none⟩)) := by rw [ha]; exact putSel_on (e := (0, 54, .pointer (some ⟨g, 0, none⟩))) 0 rfl rfl (hon 0 (by kernel_rfl)) rfl
            have e59 : a.tmps[59]? = some (.int .i64 o.at_) := by rw [ha]; exact putSel_on (e := (5, 59, .int .i64 o.at_)) 5 rfl rfl (hon 5 (by kernel_rfl)) rfl
            have e64 : a.tmps[64]? = some (.slice bA o.b.length bc) := by rw [ha]; exact putSel_on (e := (10, 64, .slice bA o.b.length bc)) 10 rfl rfl (hon 10 (by kernel_rfl)) rfl
            replace ha := Aside0.mk ha
            have HI := Aside0.mk (Q_HI hb_)
            refine goes_ Try.func20 (by kernel_rfl) rfl #[.pointer (some ⟨g, 0, none⟩), .int .i64 o.at_, .slice bA o.b.length bc] (by rfl) rfl rfl (by first | (simp only [List.map_toArray, List.map_cons, List.map_nil, Act.eval, Array.getD_eq_getD_getElem?, Option.getD_some, e54, e59, e64]; done) | (simp only [List.map_toArray, List.map_cons, List.map_nil, Act.eval, Array.getD_eq_getD_getElem?, Option.getD_some, e54, e59, e64]; rfl)) ?_
            refine (st_write HI.out o.at_ bA bc o.b (fun W' hk => Kd.C_below hcb.out (HI.out.I.after hk HI.out.B HI.out.B.size)) hbc.out hwl.out).mono ?_
            rintro e_ wn_ ⟨rfl, S_, hn_, _, _⟩
            refine ⟨_, rfl, ?_⟩
            refine hK.out _ _ ⟨(by rw [ha.out]; exact putSel_upk 11 hb_ rfl rfl rfl), fun h0_ => absurd ((up_self b 11).symm.trans h0_) (by decide), fun _ => ⟨S_, hn_⟩⟩
          exact steps_nil
        rintro b a w' hall ⟨ha, Q_HI, Q_HN⟩
        clear HI
        have hb0_ := hall 0 (by kernel_rfl)
        have hb1_ := hall 1 (by kernel_rfl)
        have hb2_ := hall 2 (by kernel_rfl)
        have hb3_ := hall 3 (by kernel_rfl)
        have hb4_ := hall 4 (by kernel_rfl)
        have hb5_ := hall 5 (by kernel_rfl)
        have hb6_ := hall 6 (by kernel_rfl)
        have hb7_ := hall 7 (by kernel_rfl)
        have hb8_ := hall 8 (by kernel_rfl)
        have hb9_ := hall 9 (by kernel_rfl)
        have hb10_ := hall 10 (by kernel_rfl)
        have hb11_ := hall 11 (by kernel_rfl)
        subst ha
        simp only [putSel, hb0_, hb1_, hb2_, hb3_, hb4_, hb5_, hb6_, hb7_, hb8_, hb9_, hb10_, hb11_, if_true, Act.put, List.setIfInBounds_toArray, List.set_cons_zero, List.set_cons_succ]
        clear Q_HI
        have HN := Aside0.mk (Q_HN hb11_)
        clear Q_HN
        clear hall hb0_ hb1_ hb2_ hb3_ hb4_ hb5_ hb6_ hb7_ hb8_ hb9_ hb10_ hb11_
        obtain ⟨S3, hS3⟩ := HN.out
        have HI := Aside0.mk hS3
        have x0 := up_cell HI.out.B d0.out
        clear HN hS3
        by_cases h2 : o.k = 2
        · have b2 : (o.k == 2) = true := by simp [h2]
          clear h2
          go_wp2_with fail
          refine (st_sync HI.out (by have := HINV.out.wl; omega)).mono ?_
          rintro e w5 ⟨rfl, hi, _⟩
          have HN := Aside0.mk hi
          clear hi HI x0
          go_wp2
          go_roundw
          case rel => exact ⟨k + 1, hl2, hl1, by go_num, ⟨S3, _, HN.out, HINV.out.sy⟩⟩
          case measure => simp [intOf]; omega
        · have b2 : (o.k == 2) = false := by simpa using h2
          clear h2
          go_wp2
          go_roundw
          case rel => exact ⟨k + 1, hl2, hl1, by go_num, ⟨S3, _, HI.out, HINV.out⟩⟩
          case measure => simp [intOf]; omega
    · have hb : decide (k < ops.length) = false ∨ (decide (k < ops.length) = true ∧ k < ops.length ∧ decide ((k : Int) < 20) = false) := by
        rcases Nat.lt_or_ge k ops.length with h | h
        · exact .inr ⟨decide_eq_true h, h, decide_eq_false (by omega)⟩
        · exact .inl (decide_eq_false (by omega))
      have hwl := Aside0.mk (show M.wait.length ≤ 1000000 by have := HINV.out.wl; omega)
      have HIN2 := Aside0.mk (Inv.on (n := 0) HINV.out.safe7 HINV.out.bad7 HINV.out.w7 (HI.out.I.len.2.1.trans HINV.out.n8) keep tear)
      rcases hb with bb | ⟨bb, bb2, bb3⟩
      all_goals
        go_wp2_with fail
        refine (st_on HI.out A2 c2 keep (fun W' hk => Kd.C_below HCK.out (HI.out.I.after hk HI.out.B HI.out.B.size)) HKL.out tear hwl.out).mono ?_
        rintro e w6 ⟨rfl, hi, _⟩
        clear HI
        have HI := Aside0.mk hi
        clear hi
        go_wp2_with fail
        refine (st_read HI.out 7).mono ?_
        rintro e w7 ⟨⟨A7, c7, l7⟩, he, hl, ho, hb⟩
        rw [HIN2.out.rd.1] at he
        subst he
        replace hl : l7 = wholeF a := hl.trans HIN2.out.rd.2
        have HN := Aside0.mk (HI.out.below hb)
        unfold Sec.v
        have hS := Aside0.mk (fun k hk => (HI.out.lt k hk).2)
        have hlen : l7.length = 512 := by rw [hl]; exact whole_len HL.out
        obtain ⟨hc7, hC7⟩ := own_C ho
        obtain ⟨k7, c7', hv7, _⟩ := Kd.R_form ho (by show 0 < l7.length; omega)
        injection hv7 with q1 q2 q3
        subst q1
        have hm : a.length ≤ 512 := HL.out
        have cv1 : ∀ n, (convert 22 9 (.slice (some ⟨k7, 0, none⟩) a.length c7)).run Try.prog (w7.drewN n) = .ok (.string (strOfNums a)) (w7.drewN n) := fun n => by
          have := cv_take (j := a.length) hC7 (below_drewN w7 n) c7 (by omega)
          rw [hl, whole_take] at this
          exact this
        have cv2 : ∀ n, (convert 22 9 (.slice A0 a.length c0)).run Try.prog (w7.drewN n) = .ok (.string (strOfNums a)) (w7.drewN n) := fun n => cv_all HCA.out (HN.out.B.trans ((below_drewN w7 n).mono HN.out.B.size)) c0
        have hcap : a.length ≤ c7 := by omega
        have HO := Aside0.mk ho
        have HLW := Aside0.mk hl
        clear hl ho hb hC7 q2 q3 HI
        simp only [hlen]
        go_upto_region 17 with fail
        go_quiet (fail)
        have HI := Aside0.mk (HN.out.below (below_drewN _ nq))
        replace HO := Aside0.mk (own_below HO.out (below_drewN w7 nq))
        generalize w7.drewN nq = w8 at HI HO ⊢
        clear cv1 cv2 HN
        go_wp2_with fail
        refine (st_off HI.out).mono ?_
        rintro e w9 ⟨rfl, hi, hk⟩
        replace HO := Aside0.mk (own_kept HO.out hk hS.out)
        clear HI
        have HI := Aside0.mk hi
        clear hi hk
        go_wp2_with fail
        refine (st_on HI.out none 0 [] (fun W' hk => Kd.C_nil _ _) (by decide) (-1) (by show 0 ≤ 1000000; omega)).mono ?_
        rintro e w10 ⟨rfl, hi, hk⟩
        have HIN3 := Aside0.mk (Inv.on (n := 0) (M := DA.off (DA.on keep tear M)) HIN2.out.safe7 HIN2.out.bad7 HIN2.out.w7 (HI.out.I.len.2.1.trans HIN2.out.n8) [] (-1))
        replace HO := Aside0.mk (own_kept HO.out hk hS.out)
        clear HI
        have HI := Aside0.mk hi
        clear hi hk
        go_wp2_with fail
        refine (st_read HI.out 7).mono ?_
        rintro e w11 ⟨⟨A9, c9, l9⟩, he, hl, ho, hb⟩
        rw [HIN3.out.rd.1] at he
        subst he
        replace hl : l9 = wholeF a := hl.trans HIN3.out.rd.2
        have HN := Aside0.mk (HI.out.below hb)
        unfold Sec.v
        have v1 : (convert 22 9 (.slice (some ⟨k7, 0, none⟩) 512 c7)).run Try.prog w11 = .ok (.string (strOfNums (wholeF a))) w11 := by
          have h_ := cv_all (own_C (own_below HO.out hb)).2 (Below.refl _ _) c7
          rw [hlen, HLW.out] at h_
          exact h_
        have v2 : (convert 22 9 (.slice A9 l9.length c9)).run Try.prog w11 = .ok (.string (strOfNums (wholeF a))) w11 := by
          have h_ := cv_all (own_C ho).2 (Below.refl _ _) c9
          rw [hl] at h_ ⊢
          exact h_
        have HBB := Aside0.mk HN.out.B
        clear HI HN hl ho hb HO
        go_wp2
        go_ret
        exact ⟨rfl, HBB.out⟩
end DiskSafe
end Go.Proofs.Ytihmfccpgahmaaa.Dk
