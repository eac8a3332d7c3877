/- The law DiskRuns: what is wanted behind the fuse, and the law's rows, walked. No conditions beyond those that are named. -/
import Derived.Test.YtihmfccpgahmaaaDrF
import Derived.Test.YtihmfccpgahmaaaWInv
import Derived.Test.YtihmfccpgahmaaaWInvWords
import Derived.Test.YtihmfccpgahmaaaWTab
namespace Go.Proofs.Ytihmfccpgahmaaa.Dk
open Go Go.RowKit Go.Proofs.YtihmfccpgahmaaaW.PrintWords Go.Proofs.YtihmfccpgahmaaaW.PrintMore Go.Proofs.YtihmfccpgahmaaaW.PrintLast Go.Proofs.Ytihmfccpgahmaaa.Str
set_option linter.unusedVariables false
set_option linter.unusedSimpArgs false
def drrun34.T34 : Bool × List (List Nat × List Nat) := (true, [([], []), ([], []), ([0, 1], [0, 1]), ([], []), ([3], [3]), ([2, 4, 2], [2, 4]), ([5, 5, 0, 1, 2, 3, 4, 5], [1, 5])])
def drrun34.B34 : List Nat := [0, 0, 3, 0, 8, 31, 63]
theorem drrun34.tab34 : rtab .any (opsOf Try.f7 34) = drrun34.T34 := by kernel_rfl
theorem drrun34.bits34 : waitsOk drrun34.T34.2 drrun34.B34 = true := by kernel_rfl
namespace DiskRuns
def lastE (M : DA) (o : OpV) : Int := if o.k = 0 then M.wrE o.at_ o.b.length else if o.k = 1 then M.rdE o.at_ else if o.k = 2 then M.syE else 0
def lastM (M : DA) (o : OpV) : DA := if o.k = 0 then M.wr o.at_ o.b else if o.k = 2 then M.sy else M
section
variable {w W wx : World} {S S' : Nat → Prop} {n k g KB : Nat} {vo v6 v7 v8 v15 : Value} {fuse : Int} {down : Bool} {steps : Int} {M : DA} {o : OpV} {A : Array Value} {bA kA : Option Addr} {bc kc : Nat} {inn : Bool}
set_option maxRecDepth 100000 in
set_option maxHeartbeats 8000000 in
theorem waits_ok {WL : List Fl} {A8 : Option Addr} {n8 c8 : Nat} (HF : Fr A n vo g v6 v7 (.slice A8 n8 c8) fuse down steps k (.pointer (some ⟨KB, 0, none⟩)) (.bool inn) v15)
    (hW : FR fF 5 36 w.heap.size (fun k => ¬ S k) wx (.slice A8 n8 c8) WL) (hl : n8 ≤ 60) (hS : ∀ k, S k → k < wx.heap.size) (hb : w.heap.size ≤ wx.heap.size)
    (HB : wx.heap[KB]? = some (.cells #[.int .i64 o.k, .int .i64 o.at_, .slice bA o.b.length bc, .slice kA o.keep.length kc, .int .i64 o.tear] 36 (0, 0)))
    (Q : Exit → Act → World → Prop) (hQ : ∀ A' w' v8', Fr A' n vo g v6 v7 v8' fuse down steps k (.pointer (some ⟨KB, 0, none⟩)) (.bool inn) v15 → Below wx.heap.size wx w' → FR fF 5 36 w.heap.size (fun k => ¬ S k) w' v8' (WL ++ [⟨o.k, o.at_, ⟨bA, o.b.length, bc⟩, ⟨kA, o.keep.length, kc⟩, o.tear⟩]) → Q .normal ⟨A', []⟩ w') : Code.wp Try.prog (cr (cl (cr (cr (cr (cl (cr (lawC Try.f7)))))))) Q ⟨A, []⟩ wx := by
  show Code.wp Try.prog (Code.region _ _ _) Q ⟨A, []⟩ wx
  rw [HF.lit]
  have hW8 := Aside0.mk hW
  have hn8 := Aside0.mk hl
  have hn8' := Aside0.mk (show WL.length = n8 by obtain ⟨_, _, h, _⟩ := hW; injection h with _ h _; exact h.symm)
  have hB8 := Aside0.mk HB
  have HQ := Aside0.mk (And.intro hQ (And.intro hS hb))
  have hpos := Aside0.mk (show 0 < wx.heap.size from Nat.lt_of_le_of_lt (Nat.zero_le _) (blk_lt HB))
  have HB := Aside0.mk (Below.refl wx.heap.size wx)
  clear hW hl hS hb hQ HF
  refine start_ (n := 7) (S := fun w' => True) (ds := []) #[false, false, false, false, false, false, false] (by kernel_rfl) rfl rfl trivial (fun hHeld => ?_)
  refine with_tabW drrun34.tab34 drrun34.bits34 (fun HT_ HW_ => ?_)
  have n0_ := Aside0.mk (below_drew HB.out)
  have n1_ := Aside0.mk (show 0 < (World.drew _).heap.size from Nat.lt_of_lt_of_le hpos.out n0_.out.size)
  clear HB
  generalize World.drew _ = wd at n0_ n1_ hHeld ⊢
  have HB := n0_
  have B0 := n1_
  have B1 := n1_
  have NE : True := trivial
  clear hHeld n0_ n1_
  refine inv_at [0, 1, 2, 3, 4, 5, 6] (fun a0_ b a w' => ∃ (K0 : Nat) (V2 : Value) (K1 : Nat) (V5 : Value) (m0_ : Value) (m4_ : Value) (m6_ : Value), a = putSel a0_ b [(0, 145, m0_), (1, 146, .slice A8 n8 c8), (2, 147, V2), (3, 148, .agg #[.int .i64 o.k, .int .i64 o.at_, .slice bA o.b.length bc, .slice kA o.keep.length kc, .int .i64 o.tear]), (4, 149, m4_), (5, 150, V5), (6, 8, m6_)] ∧ (Below wx.heap.size wx w') ∧ (b 0 = true → b 2 = false → kFl.R 36 w' wx.heap.size (fun _ => True) (.slice (some ⟨K0, 0, none⟩) 0 0) []) ∧ (K0 < w'.heap.size) ∧ (K1 < w'.heap.size) ∧ (K1 ≠ K0 ∨ K1 = 0) ∧ (b 2 = true → b 5 = false → kFl.R 36 w' wx.heap.size (fun _ => True) V2 WL) ∧ (b 2 = true → b 5 = false → ∀ k, V2.ownBlock = some k → k < w'.heap.size) ∧ (b 4 = true → b 5 = false → wx.heap.size ≤ K1 ∧ w'.heap[K1]? = some (.cells #[.int .i64 o.k, .int .i64 o.at_, .slice bA o.b.length bc, .slice kA o.keep.length kc, .int .i64 o.tear] 36 (0, 0))) ∧ (b 5 = true → kFl.R 36 w' wx.heap.size (fun _ => True) V5 (WL ++ [(⟨o.k, o.at_, ⟨bA, o.b.length, bc⟩, ⟨kA, o.keep.length, kc⟩, o.tear⟩ : Fl)])) ∧ (b 0 = true → (m0_ : Value) = .slice (some ⟨K0, 0, none⟩) 0 0) ∧ (b 4 = true → (m4_ : Value) = .slice (some ⟨K1, 0, none⟩) 1 1) ∧ (b 6 = true → (m6_ : Value) = V5)) HT_.out HW_.out (by kernel_rfl) (by kernel_rfl) ?_ ?_ ?_
  · exact ⟨0, (.slice none 0 0), 0, (.slice none 0 0), .bool false, .bool false, .bool false, by simp only [putSel, Bool.false_eq_true, if_false], HB.out, fun h_ => absurd h_ (by decide), B0.out, B1.out, (.inr rfl), fun h_ => absurd h_ (by decide), fun h_ => absurd h_ (by decide), fun h_ => absurd h_ (by decide), fun h_ => absurd h_ (by decide), fun h_ => absurd h_ (by decide), fun h_ => absurd h_ (by decide), fun h_ => absurd h_ (by decide)⟩
  · skip
    clear B0 B1 HB NE
    refine steps_cons ?_ ?_
    · rintro b a w' ⟨K0, V2, K1, V5, m0_, m4_, m6_, ha, Q_HB, Q_E0, Q_B0, Q_B1, Q_NE, Q_F2, Q_B2, Q_S4, Q_F5, Q_X0_, Q_X4_, Q_X6_⟩ hb_ hon hoff
      refine ⟨_, rfl, fun K hK => ?_⟩
      replace ha := Aside0.mk ha
      have HB := Aside0.mk Q_HB
      have B0 := Aside0.mk Q_B0
      have B1 := Aside0.mk Q_B1
      have NE := Aside0.mk Q_NE
      refine value_ (w1 := w'.alloc (.cells #[] 36)) (v := .slice (some ⟨w'.heap.size, 0, none⟩) 0 0) (by rfl) rfl ?_ ?_
      · go_simp
        try rfl
      refine hK.out _ _ ⟨w'.heap.size, V2, K1, V5, (.slice (some ⟨w'.heap.size, 0, none⟩) 0 0), m4_, m6_, (by rw [ha.out]; exact putSel_upk 0 hb_ rfl rfl rfl), (below_alloc HB.out _), fun _ _ => (empty_row kFl w' wx.heap.size _ _ HB.out.size trivial), (by rw [World.size_alloc]; exact Nat.lt_succ_self _), (by rw [World.size_alloc]; have := B1.out; omega), (.inl (by have := B1.out; omega)), fun h0_ _ => absurd ((hoff 2 (by kernel_rfl)).symm.trans h0_) (by decide), fun h0_ _ => absurd ((hoff 2 (by kernel_rfl)).symm.trans h0_) (by decide), fun h0_ h1_ => ⟨(Q_S4 h0_ h1_).1, (heap_alloc_old w' _ (blk_lt (Q_S4 h0_ h1_).2)).trans (Q_S4 h0_ h1_).2⟩, fun h0_ => absurd ((hoff 5 (by kernel_rfl)).symm.trans h0_) (by decide), fun _ => rfl, Q_X4_, fun h0_ => absurd ((hoff 6 (by kernel_rfl)).symm.trans h0_) (by decide)⟩
    refine steps_cons ?_ ?_
    · rintro b a w' ⟨K0, V2, K1, V5, m0_, m4_, m6_, ha, Q_HB, Q_E0, Q_B0, Q_B1, Q_NE, Q_F2, Q_B2, Q_S4, Q_F5, Q_X0_, Q_X4_, Q_X6_⟩ hb_ hon hoff
      refine ⟨_, rfl, fun K hK => ?_⟩
      have e8 : a.tmps[8]? = some (.slice A8 n8 c8) := by rw [ha]; exact (putSel_not (hoff 6 (by kernel_rfl)) rfl).trans rfl
      replace ha := Aside0.mk ha
      have HB := Aside0.mk Q_HB
      have B0 := Aside0.mk Q_B0
      have B1 := Aside0.mk Q_B1
      have NE := Aside0.mk Q_NE
      refine value_ (w1 := w') (v := .slice A8 n8 c8) (by rfl) rfl ?_ ?_
      · go_simp
        (try simp only [i64_w])
        try rfl
      refine hK.out _ _ ⟨K0, V2, K1, V5, m0_, m4_, m6_, (by rw [ha.out]; exact putSel_upk 1 hb_ rfl rfl rfl), Q_HB, Q_E0, Q_B0, Q_B1, Q_NE, fun h0_ _ => absurd ((hoff 2 (by kernel_rfl)).symm.trans h0_) (by decide), fun h0_ _ => absurd ((hoff 2 (by kernel_rfl)).symm.trans h0_) (by decide), Q_S4, fun h0_ => absurd ((hoff 5 (by kernel_rfl)).symm.trans h0_) (by decide), Q_X0_, Q_X4_, fun h0_ => absurd ((hoff 6 (by kernel_rfl)).symm.trans h0_) (by decide)⟩
    refine steps_cons ?_ ?_
    · rintro b a w' ⟨K0, V2, K1, V5, m0_, m4_, m6_, ha, Q_HB, Q_E0, Q_B0, Q_B1, Q_NE, Q_F2, Q_B2, Q_S4, Q_F5, Q_X0_, Q_X4_, Q_X6_⟩ hb_ hon hoff
      refine ⟨_, rfl, fun K hK => ?_⟩
      have e145 : a.tmps[145]? = some (m0_) := by rw [ha]; exact putSel_on (e := (0, 145, m0_)) 0 rfl rfl (hon 0 (by kernel_rfl)) rfl
      rw [Q_X0_ (hon 0 (by kernel_rfl))] at e145
      have e146 : a.tmps[146]? = some (.slice A8 n8 c8) := by rw [ha]; exact putSel_on (e := (1, 146, .slice A8 n8 c8)) 1 rfl rfl (hon 1 (by kernel_rfl)) rfl
      replace ha := Aside0.mk ha
      have HB := Aside0.mk Q_HB
      have E0 := Aside0.mk (Q_E0 (hon 0 (by kernel_rfl)) hb_)
      have B0 := Aside0.mk Q_B0
      have B1 := Aside0.mk Q_B1
      have NE := Aside0.mk Q_NE
      refine Kd.R_append_rows_step kFl (Rr := kFl.K w') (w0 := wx) wx.heap.size (by rfl) (.tmp 145) (.tmp 146) 34 36 (.agg #[.int .i64 0, .int .i64 0, .slice none 0 0, .slice none 0 0, .int .i64 0]) 72 rfl Try.underlying34 infoOp rfl (by decide) (by decide) (.slice (some ⟨K0, 0, none⟩) 0 0) [] WL A8 n8 c8 (fun _ => True) (fun _ => False) ?_ ?_ E0.out ((hW8.out.below HB.out).reads kFl rfl kFl_M (fun _ => rfl)) (fun y cs hy => by rw [kFl_K _ _ _ hy]; exact kFl_MM _ _ _ _) (fun _ h => h.elim) (fun _ _ => trivial) HB.out HB.out.size (by show (0 + n8) * 72 ≤ _; have := hn8.out; omega) ?_
      · first | (simp only [Act.eval, Array.getD_eq_getD_getElem?, Option.getD_some, e145]; done) | (simp only [Act.eval, Array.getD_eq_getD_getElem?, Option.getD_some, e145]; rfl)
      · first | (simp only [Act.eval, Array.getD_eq_getD_getElem?, Option.getD_some, e146]; done) | (simp only [Act.eval, Array.getD_eq_getD_getElem?, Option.getD_some, e146]; rfl)
      intro v1_ w1_ hR_ hB_ hg_ hat_
      refine hK.out _ _ ⟨K0, v1_, K1, V5, m0_, m4_, m6_, (by rw [ha.out]; exact putSel_upk 2 hb_ rfl rfl rfl), hB_, fun _ h1_ => absurd ((up_self b 2).symm.trans h1_) (by decide), (Nat.lt_of_lt_of_le B0.out hg_.size), (Nat.lt_of_lt_of_le B1.out hg_.size), NE.out, fun _ _ => (by rw [List.nil_append] at hR_; exact hR_), fun _ _ => (fun k hk => Kd.R_lt hR_ k hk), fun h0_ h1_ => ⟨(Q_S4 h0_ h1_).1, (hg_.block K1 (blk_lt (Q_S4 h0_ h1_).2) (fun h => NE.out.elim (fun q => q (Option.some.inj h)) (fun q => by have := (Q_S4 h0_ h1_).1; have := hpos.out; omega))).trans (Q_S4 h0_ h1_).2⟩, fun h0_ => absurd ((hoff 5 (by kernel_rfl)).symm.trans h0_) (by decide), Q_X0_, Q_X4_, fun h0_ => absurd ((hoff 6 (by kernel_rfl)).symm.trans h0_) (by decide)⟩
    refine steps_cons ?_ ?_
    · rintro b a w' ⟨K0, V2, K1, V5, m0_, m4_, m6_, ha, Q_HB, Q_E0, Q_B0, Q_B1, Q_NE, Q_F2, Q_B2, Q_S4, Q_F5, Q_X0_, Q_X4_, Q_X6_⟩ hb_ hon hoff
      refine ⟨_, rfl, fun K hK => ?_⟩
      have e13 : a.tmps[13]? = some (.pointer (some ⟨KB, 0, none⟩)) := by rw [ha]; exact (putSel_off rfl).trans rfl
      replace ha := Aside0.mk ha
      have HB := Aside0.mk Q_HB
      have B0 := Aside0.mk Q_B0
      have B1 := Aside0.mk Q_B1
      have NE := Aside0.mk Q_NE
      have hbk_ := (HB.out.block KB (blk_lt hB8.out)).trans hB8.out
      have hc0_ : w'.cell? ⟨KB, 0, none⟩ = some (.int .i64 o.k) := (blk_cell hbk_ 0).trans rfl
      have hc1_ : w'.cell? ⟨KB, 1, none⟩ = some (.int .i64 o.at_) := (blk_cell hbk_ 1).trans rfl
      have hc2_ : w'.cell? ⟨KB, 2, none⟩ = some (.slice bA o.b.length bc) := (blk_cell hbk_ 2).trans rfl
      have hc3_ : w'.cell? ⟨KB, 3, none⟩ = some (.slice kA o.keep.length kc) := (blk_cell hbk_ 3).trans rfl
      have hc4_ : w'.cell? ⟨KB, 4, none⟩ = some (.int .i64 o.tear) := (blk_cell hbk_ 4).trans rfl
      refine value_ (w1 := w') (v := .agg #[.int .i64 o.k, .int .i64 o.at_, .slice bA o.b.length bc, .slice kA o.keep.length kc, .int .i64 o.tear]) (by rfl) rfl ?_ ?_
      · go_simp
        (try simp only [i64_w])
        try rfl
      refine hK.out _ _ ⟨K0, V2, K1, V5, m0_, m4_, m6_, (by rw [ha.out]; exact putSel_upk 3 hb_ rfl rfl rfl), Q_HB, Q_E0, Q_B0, Q_B1, Q_NE, Q_F2, Q_B2, fun h0_ _ => absurd ((hoff 4 (by kernel_rfl)).symm.trans h0_) (by decide), fun h0_ => absurd ((hoff 5 (by kernel_rfl)).symm.trans h0_) (by decide), Q_X0_, fun h0_ => absurd ((hoff 4 (by kernel_rfl)).symm.trans h0_) (by decide), fun h0_ => absurd ((hoff 6 (by kernel_rfl)).symm.trans h0_) (by decide)⟩
    refine steps_cons ?_ ?_
    · rintro b a w' ⟨K0, V2, K1, V5, m0_, m4_, m6_, ha, Q_HB, Q_E0, Q_B0, Q_B1, Q_NE, Q_F2, Q_B2, Q_S4, Q_F5, Q_X0_, Q_X4_, Q_X6_⟩ hb_ hon hoff
      refine ⟨_, rfl, fun K hK => ?_⟩
      have e148 : a.tmps[148]? = some (.agg #[.int .i64 o.k, .int .i64 o.at_, .slice bA o.b.length bc, .slice kA o.keep.length kc, .int .i64 o.tear]) := by rw [ha]; exact putSel_on (e := (3, 148, .agg #[.int .i64 o.k, .int .i64 o.at_, .slice bA o.b.length bc, .slice kA o.keep.length kc, .int .i64 o.tear])) 3 rfl rfl (hon 3 (by kernel_rfl)) rfl
      replace ha := Aside0.mk ha
      have HB := Aside0.mk Q_HB
      have B0 := Aside0.mk Q_B0
      have B1 := Aside0.mk Q_B1
      have NE := Aside0.mk Q_NE
      refine value_ (w1 := w'.alloc (.cells #[.int .i64 o.k, .int .i64 o.at_, .slice bA o.b.length bc, .slice kA o.keep.length kc, .int .i64 o.tear] 36)) (v := .slice (some ⟨w'.heap.size, 0, none⟩) 1 1) (by rfl) rfl ?_ ?_
      · go_simp
        try rfl
      refine hK.out _ _ ⟨K0, V2, w'.heap.size, V5, m0_, (.slice (some ⟨w'.heap.size, 0, none⟩) 1 1), m6_, (by rw [ha.out]; exact putSel_upk 4 hb_ rfl rfl rfl), (below_alloc HB.out _), fun h0_ h1_ => (Kd.R_below (Q_E0 h0_ h1_) (below_alloc (Below.refl _ _) _)), (by rw [World.size_alloc]; have := B0.out; omega), (by rw [World.size_alloc]; exact Nat.lt_succ_self _), (.inl (by have := B0.out; omega)), fun h0_ h1_ => (Kd.R_below (Q_F2 h0_ h1_) (below_alloc (Below.refl _ _) _)), fun h0_ h1_ => (fun k hk => by rw [World.size_alloc]; have := (Q_B2 h0_ h1_) k hk; omega), fun _ _ => ⟨HB.out.size, blk_new _ _⟩, fun h0_ => absurd ((hoff 5 (by kernel_rfl)).symm.trans h0_) (by decide), Q_X0_, fun _ => rfl, fun h0_ => absurd ((hoff 6 (by kernel_rfl)).symm.trans h0_) (by decide)⟩
    refine steps_cons ?_ ?_
    · rintro b a w' ⟨K0, V2, K1, V5, m0_, m4_, m6_, ha, Q_HB, Q_E0, Q_B0, Q_B1, Q_NE, Q_F2, Q_B2, Q_S4, Q_F5, Q_X0_, Q_X4_, Q_X6_⟩ hb_ hon hoff
      refine ⟨_, rfl, fun K hK => ?_⟩
      have e147 : a.tmps[147]? = some (V2) := by rw [ha]; exact putSel_on (e := (2, 147, V2)) 2 rfl rfl (hon 2 (by kernel_rfl)) rfl
      have e149 : a.tmps[149]? = some (m4_) := by rw [ha]; exact putSel_on (e := (4, 149, m4_)) 4 rfl rfl (hon 4 (by kernel_rfl)) rfl
      rw [Q_X4_ (hon 4 (by kernel_rfl))] at e149
      replace ha := Aside0.mk ha
      have HB := Aside0.mk Q_HB
      have B0 := Aside0.mk Q_B0
      have B1 := Aside0.mk Q_B1
      have NE := Aside0.mk Q_NE
      have F2 := Aside0.mk (Q_F2 (hon 2 (by kernel_rfl)) hb_)
      have B2 := Aside0.mk (Q_B2 (hon 2 (by kernel_rfl)) hb_)
      have S4 := Aside0.mk (Q_S4 (hon 4 (by kernel_rfl)) hb_)
      refine Kd.R_append_rows_step kFl (Rr := kFl.K w') (w0 := wx) wx.heap.size (by rfl) (.tmp 147) (.tmp 149) 34 36 (.agg #[.int .i64 0, .int .i64 0, .slice none 0 0, .slice none 0 0, .int .i64 0]) 72 rfl Try.underlying34 infoOp rfl (by decide) (by decide) (V2) WL [(⟨o.k, o.at_, ⟨bA, o.b.length, bc⟩, ⟨kA, o.keep.length, kc⟩, o.tear⟩ : Fl)] (some ⟨K1, 0, none⟩) 1 1 (fun _ => True) (fun _ => False) ?_ ?_ F2.out (one_reads S4.out.2) (fun y cs hy => by rw [kFl_K _ _ _ hy]; exact kFl_MM _ _ _ _) (fun _ h => h.elim) (fun _ _ => trivial) HB.out HB.out.size (by have := hn8.out; have := hn8'.out; omega) ?_
      · first | (simp only [Act.eval, Array.getD_eq_getD_getElem?, Option.getD_some, e147]; done) | (simp only [Act.eval, Array.getD_eq_getD_getElem?, Option.getD_some, e147]; rfl)
      · first | (simp only [Act.eval, Array.getD_eq_getD_getElem?, Option.getD_some, e149]; done) | (simp only [Act.eval, Array.getD_eq_getD_getElem?, Option.getD_some, e149]; rfl)
      intro v1_ w1_ hR_ hB_ hg_ hat_
      refine hK.out _ _ ⟨K0, V2, K1, v1_, m0_, m4_, m6_, (by rw [ha.out]; exact putSel_upk 5 hb_ rfl rfl rfl), hB_, fun _ h1_ => absurd ((hon 2 (by kernel_rfl)).symm.trans h1_) (by decide), (Nat.lt_of_lt_of_le B0.out hg_.size), (Nat.lt_of_lt_of_le B1.out hg_.size), NE.out, fun _ h1_ => absurd ((up_self b 5).symm.trans h1_) (by decide), fun _ h1_ => absurd ((up_self b 5).symm.trans h1_) (by decide), fun _ h1_ => absurd ((up_self b 5).symm.trans h1_) (by decide), fun _ => hR_, Q_X0_, Q_X4_, fun h0_ => absurd ((hoff 6 (by kernel_rfl)).symm.trans h0_) (by decide)⟩
    refine steps_cons ?_ ?_
    · rintro b a w' ⟨K0, V2, K1, V5, m0_, m4_, m6_, ha, Q_HB, Q_E0, Q_B0, Q_B1, Q_NE, Q_F2, Q_B2, Q_S4, Q_F5, Q_X0_, Q_X4_, Q_X6_⟩ hb_ hon hoff
      refine ⟨_, rfl, fun K hK => ?_⟩
      have e150 : a.tmps[150]? = some (V5) := by rw [ha]; exact putSel_on (e := (5, 150, V5)) 5 rfl rfl (hon 5 (by kernel_rfl)) rfl
      replace ha := Aside0.mk ha
      have HB := Aside0.mk Q_HB
      have B0 := Aside0.mk Q_B0
      have B1 := Aside0.mk Q_B1
      have NE := Aside0.mk Q_NE
      have F5 := Aside0.mk (Q_F5 (hon 5 (by kernel_rfl)))
      refine value_ (w1 := w') (v := V5) (by rfl) rfl ?_ ?_
      · go_simp
        (try simp only [i64_w])
        try rfl
      refine hK.out _ _ ⟨K0, V2, K1, V5, m0_, m4_, (V5), (by rw [ha.out]; exact putSel_upk 6 hb_ rfl rfl rfl), Q_HB, fun _ h1_ => absurd ((hon 2 (by kernel_rfl)).symm.trans h1_) (by decide), Q_B0, Q_B1, Q_NE, fun _ h1_ => absurd ((hon 5 (by kernel_rfl)).symm.trans h1_) (by decide), fun _ h1_ => absurd ((hon 5 (by kernel_rfl)).symm.trans h1_) (by decide), fun _ h1_ => absurd ((hon 5 (by kernel_rfl)).symm.trans h1_) (by decide), Q_F5, Q_X0_, Q_X4_, fun _ => rfl⟩
    exact steps_nil
  rintro b a w' hall ⟨K0, V2, K1, V5, m0_, m4_, m6_, ha, Q_HB, Q_E0, Q_B0, Q_B1, Q_NE, Q_F2, Q_B2, Q_S4, Q_F5, Q_X0_, Q_X4_, Q_X6_⟩
  clear B0 B1 HB NE
  have hb0_ := hall 0 (by kernel_rfl)
  have hb1_ := hall 1 (by kernel_rfl)
  have hb2_ := hall 2 (by kernel_rfl)
  have hb3_ := hall 3 (by kernel_rfl)
  have hb4_ := hall 4 (by kernel_rfl)
  have hb5_ := hall 5 (by kernel_rfl)
  have hb6_ := hall 6 (by kernel_rfl)
  subst ha
  obtain rfl := Q_X0_ hb0_
  obtain rfl := Q_X4_ hb4_
  obtain rfl := Q_X6_ hb6_
  simp only [putSel, hb0_, hb1_, hb2_, hb3_, hb4_, hb5_, hb6_, if_true, Act.put, List.setIfInBounds_toArray, List.set_cons_zero, List.set_cons_succ]
  have HB := Aside0.mk Q_HB
  clear Q_HB
  clear Q_E0
  have B0 := Aside0.mk Q_B0
  clear Q_B0
  have B1 := Aside0.mk Q_B1
  clear Q_B1
  have NE := Aside0.mk Q_NE
  clear Q_NE
  clear Q_F2
  clear Q_B2
  clear Q_S4
  have F5 := Aside0.mk (Q_F5 hb5_)
  clear Q_F5
  clear hall hb0_ hb1_ hb2_ hb3_ hb4_ hb5_ hb6_
  exact HQ.out.1 _ _ _ ⟨rfl, rfl, rfl, rfl, rfl, rfl, rfl, rfl, rfl, rfl, rfl, rfl, rfl, rfl⟩ HB.out ((FR.of_R kFl (f := fF) rfl kFl_K (fun _ => rfl) F5.out).new HQ.out.2.1 HQ.out.2.2)
theorem ask_in (hin : inn = decide (0 ≤ o.at_ ∧ o.at_ < M.now.length)) : (inn = false → M.ask o.at_ = 1) ∧ (inn = true → M.ask o.at_ = if M.down = true then 8 else 0) := by
  unfold DA.ask
  refine ⟨fun h => ?_, fun h => ?_⟩
  · rw [h] at hin
    have := of_decide_eq_false hin.symm
    rw [if_pos (by omega)]
  · rw [h] at hin
    have := of_decide_eq_true hin.symm
    rw [if_neg (by omega)]
theorem skip_eq (hin : inn = decide (0 ≤ o.at_ ∧ o.at_ < M.now.length)) (h : wantF M o inn ≠ 0 ∨ (o.k ≠ 0 ∧ o.k ≠ 2)) : lastE M o = wantF M o inn ∧ lastM M o = M := by
  obtain ⟨a1, a2⟩ := ask_in hin
  unfold wantF at h ⊢
  unfold lastE lastM
  by_cases h0 : o.k = 0
  · rw [if_pos h0, if_pos h0]
    by_cases hw : inn = false ∨ 512 < o.b.length
    · rw [if_pos (.inl ⟨h0, hw⟩)]
      refine ⟨?_, ?_⟩
      · unfold DA.wrE
        rw [if_pos (hw.imp a1 id)]
      · unfold DA.wr
        rw [if_neg (fun q => hw.elim (fun e => by have := a1 e; omega) (fun e => by have := q.2; omega))]
    · have hno : ¬ ((o.k = 0 ∧ (inn = false ∨ 512 < o.b.length)) ∨ (o.k = 1 ∧ inn = false)) := fun q => q.elim (fun q => hw q.2) (fun q => by have := q.1; omega)
      have hi : inn = true := by cases inn with | true => rfl | false => exact absurd (.inl rfl) hw
      have ha := a2 hi
      rw [if_neg hno] at h ⊢
      by_cases hd : M.down = true
      · rw [if_pos hd] at ha
        rw [if_pos ⟨by omega, hd⟩]
        refine ⟨?_, ?_⟩
        · unfold DA.wrE
          rw [ha, if_neg (fun q => q.elim (fun e => by omega) (fun e => hw (.inr e))), if_neg (by decide)]
        · unfold DA.wr
          rw [ha, if_neg (fun q => by have := q.1; omega)]
      · rw [if_neg (fun q => hd q.2), if_neg (fun q => by have := q.1; omega)] at h
        exact absurd h (by omega)
  · rw [if_neg h0, if_neg h0]
    by_cases h1 : o.k = 1
    · rw [if_pos h1]
      refine ⟨?_, if_neg (by omega)⟩
      cases hi : inn with
      | false =>
        have ha := a1 hi
        rw [if_pos (.inr ⟨h1, rfl⟩)]
        unfold DA.rdE
        rw [ha, if_neg (by decide)]
      | true =>
        have ha := a2 hi
        have hno : ¬ ((o.k = 0 ∧ (true = false ∨ 512 < o.b.length)) ∨ (o.k = 1 ∧ true = false)) := fun q => q.elim (fun q => h0 q.1) (fun q => by cases q.2)
        rw [if_neg hno]
        unfold DA.rdE
        by_cases hd : M.down = true
        · rw [if_pos hd] at ha
          rw [ha, if_neg (by decide), if_pos ⟨by omega, hd⟩]
        · rw [if_neg hd] at ha
          have hdn : ¬ ((0 ≤ o.k ∧ o.k ≤ 2) ∧ M.down = true) := fun q => hd q.2
          rw [ha, if_pos rfl, if_neg hdn]
          by_cases ht : rdOf false M.torn o.at_ = true
          · rw [if_pos ht, if_pos ⟨h1, ht⟩]
          · rw [if_neg ht, if_neg (fun q => ht q.2)]
    · rw [if_neg h1]
      have hno : ¬ ((o.k = 0 ∧ (inn = false ∨ 512 < o.b.length)) ∨ (o.k = 1 ∧ inn = false)) := fun q => q.elim (fun q => h0 q.1) (fun q => h1 q.1)
      rw [if_neg hno] at h ⊢
      by_cases h2 : o.k = 2
      · rw [if_pos h2, if_pos h2]
        by_cases hd : M.down = true
        · rw [if_pos ⟨by omega, hd⟩]
          unfold DA.syE DA.sy
          rw [if_pos hd, if_pos hd]
          exact ⟨rfl, rfl⟩
        · rw [if_neg (fun q => hd q.2), if_neg (fun q => h1 q.1)] at h
          exact absurd h (by omega)
      · rw [if_neg h2, if_neg h2, if_neg (fun q => by omega), if_neg (fun q => h1 q.1)]
        exact ⟨rfl, rfl⟩
theorem go_eq0 (hin : inn = decide (0 ≤ o.at_ ∧ o.at_ < M.now.length)) (h0 : o.k = 0) (h : wantF M o inn = 0) : M.ask o.at_ = 0 ∧ o.b.length ≤ 512 ∧ (0 ≤ o.at_ ∧ o.at_ < M.now.length) ∧ lastE M o = M.stepE ∧ lastM M o = M.wr o.at_ o.b := by
  obtain ⟨a1, a2⟩ := ask_in hin
  unfold wantF at h
  by_cases hw : inn = false ∨ 512 < o.b.length
  · rw [if_pos (.inl ⟨h0, hw⟩)] at h; omega
  · have hi : inn = true := by cases inn with | true => rfl | false => exact absurd (.inl rfl) hw
    have ha := a2 hi
    rw [if_neg (fun q => q.elim (fun q => hw q.2) (fun q => by have := q.1; omega))] at h
    have hd : ¬ M.down = true := fun hd => by rw [if_pos ⟨by omega, hd⟩] at h; omega
    rw [if_neg hd] at ha
    have hl : ¬ 512 < o.b.length := fun q => hw (.inr q)
    refine ⟨ha, by omega, of_decide_eq_true (hin.symm.trans hi), ?_, ?_⟩
    · unfold lastE DA.wrE
      rw [if_pos h0, ha, if_neg (by omega), if_pos rfl]
    · unfold lastM
      rw [if_pos h0]
theorem go_eq2 (h2 : o.k = 2) (h : wantF M o inn = 0) : M.down = false ∧ lastE M o = M.stepE ∧ lastM M o = M.sy := by
  unfold wantF at h
  rw [if_neg (by omega)] at h
  have hd : ¬ M.down = true := fun hd => by rw [if_pos ⟨by omega, hd⟩] at h; omega
  have hd2 : M.down = false := by cases hq : M.down with | false => rfl | true => exact absurd hq hd
  refine ⟨hd2, ?_, ?_⟩
  · unfold lastE DA.syE
    rw [if_neg (by omega), if_neg (by omega), if_pos h2, if_neg hd]
  · unfold lastM
    rw [if_neg (by omega), if_pos h2]
set_option maxRecDepth 100000 in
set_option maxHeartbeats 8000000 in
theorem law_skip (HF : Fr A n vo g v6 v7 v8 fuse down steps k (.pointer (some ⟨KB, 0, none⟩)) (.bool inn) (.int .i64 (wantF M o inn)))
    (HB : wx.heap[KB]? = some (.cells #[.int .i64 o.k, .int .i64 o.at_, .slice bA o.b.length bc, .slice kA o.keep.length kc, .int .i64 o.tear] 36 (0, 0))) (h : wantF M o inn ≠ 0 ∨ (o.k ≠ 0 ∧ o.k ≠ 2))
    (Q : Exit → Act → World → Prop) (hQ : ∀ A', Fr A' n vo g v6 v7 v8 fuse down steps k (.pointer (some ⟨KB, 0, none⟩)) (.bool inn) (.int .i64 (wantF M o inn)) → Q .normal ⟨A', []⟩ wx) : Code.wp Try.prog (lawC Try.f7) Q ⟨A, []⟩ wx := by
  have y0 : wx.cell? ⟨KB, 0, none⟩ = some (.int .i64 o.k) := (blk_cell HB 0).trans rfl
  show Code.wp Try.prog (Code.seq _ _) Q ⟨A, []⟩ wx
  rw [HF.lit]
  have HQ := Aside0.mk hQ
  clear HF hQ
  generalize wantF M o inn = wt at h HQ ⊢
  rcases (show (wt == 0) = false ∨ ((wt == 0) = true ∧ (o.k == 0) = false ∧ (o.k == 2) = false) from by
    by_cases hw : wt = 0
    · rcases h with h | h
      · exact absurd hw h
      · exact .inr ⟨beq_iff_eq.2 hw, beq_eq_false_iff_ne.2 h.1, beq_eq_false_iff_ne.2 h.2⟩
    · exact .inl (beq_eq_false_iff_ne.2 hw)) with b0 | ⟨b0, b1, b2⟩
  all_goals
    clear h
    go_wp2
    exact HQ.out _ ⟨rfl, rfl, rfl, rfl, rfl, rfl, rfl, rfl, rfl, rfl, rfl, rfl, rfl, rfl⟩
set_option maxRecDepth 100000 in
set_option maxHeartbeats 8000000 in
theorem law_go0 (HF : Fr A n vo g v6 v7 v8 fuse down steps k (.pointer (some ⟨KB, 0, none⟩)) (.bool inn) (.int .i64 (wantF M o inn))) (HL : LR w wx S v6 v7 v8 fuse down steps M) (hS : ∀ k, S k → k < wx.heap.size) (hbW : Below w.heap.size w wx)
    (HB : wx.heap[KB]? = some (.cells #[.int .i64 o.k, .int .i64 o.at_, .slice bA o.b.length bc, .slice kA o.keep.length kc, .int .i64 o.tear] 36 (0, 0))) (hbC : Kd.C (Kd.int .u8) w bA o.b.length o.b) (hin : inn = decide (0 ≤ o.at_ ∧ o.at_ < M.now.length)) (hst : 0 ≤ steps ∧ steps ≤ k) (hk : k < 50) (hwl : M.wait.length ≤ 50) (hfu : fuse ≤ 9223372036854775807) (h0 : o.k = 0) (hw : wantF M o inn = 0)
    (Q : Exit → Act → World → Prop) (hQ : ∀ A' w' v6' v7' v8' f' d' s', Fr A' n vo g v6' v7' v8' f' d' s' k (.pointer (some ⟨KB, 0, none⟩)) (.bool inn) (.int .i64 (lastE M o)) → LR w w' S v6' v7' v8' f' d' s' (lastM M o) → Below wx.heap.size wx w' → (0 ≤ s' ∧ s' ≤ k + 1) → f' ≤ 9223372036854775807 → Q .normal ⟨A', []⟩ w') : Code.wp Try.prog (lawC Try.f7) Q ⟨A, []⟩ wx := by
  obtain ⟨ha, hl, hat, hE, hM⟩ := go_eq0 hin h0 hw
  obtain ⟨a, hoa⟩ : ∃ a : Nat, o.at_ = a := ⟨o.at_.toNat, by omega⟩
  have y0 : wx.cell? ⟨KB, 0, none⟩ = some (.int .i64 0) := by rw [← h0]; exact (blk_cell HB 0).trans rfl
  have y1 : wx.cell? ⟨KB, 1, none⟩ = some (.int .i64 a) := by rw [← hoa]; exact (blk_cell HB 1).trans rfl
  have y2 : wx.cell? ⟨KB, 2, none⟩ = some (.slice bA o.b.length bc) := (blk_cell HB 2).trans rfl
  have hcv := cv_all hbC hbW bc
  show Code.wp Try.prog (Code.seq _ _) Q ⟨A, []⟩ wx
  rw [HF.lit, hw]
  rw [hE] at hQ
  have HX := Aside0.mk (show (∀ k, S k → k < wx.heap.size) ∧ a < (NS M.now M.torn).length ∧ (NS M.now M.torn).length ≤ 65536 from ⟨hS, by rw [HL.nlen]; omega, by rw [HL.nlen]; exact HL.t4⟩)
  have HX2 := Aside0.mk hwl
  have HX3 := Aside0.mk (show o.at_ = (a : Int) ∧ Kd.C (Kd.int .u8) w bA o.b.length o.b ∧ M.ask o.at_ = 0 ∧ o.b.length ≤ 512 ∧ lastM M o = M.wr o.at_ o.b from ⟨hoa, hbC, ha, hl, hM⟩)
  have hso := step_of M (by rw [← HL.k]; omega) (by rw [← HL.k]; omega)
  have hse : M.stepE = if M.fuse = 1 then 8 else 0 := rfl
  rw [← HL.f, ← HL.k] at hso
  rw [← HL.d] at hso
  rw [← HL.f] at hse
  have HBB := Aside0.mk HB
  have HL := Aside0.mk HL
  have HBW := Aside0.mk hbW
  have HST := Aside0.mk hst
  have HQ := Aside0.mk hQ
  have hs1 : 0 ≤ steps := hst.1
  have hs2 : steps < 1000 := by omega
  clear HF hQ ha hl hat hE hM hS hbC hin hwl hw hst
  rcases hso with ⟨q1, e1, e2, e3⟩ | ⟨q1, q2, e1, e2, e3⟩ | ⟨q1, q2, e1, e2, e3⟩
  · rw [if_pos q1] at hse
    rw [hse] at HQ
    have HL0 := HL
    subst q1
    clear hse
    go_upto_region 33 with fail
    go_wp2_with fail
    refine (put_ok HL.out.n a HX.out.2.1 HX.out.2.2 (strOfNums o.b, false)).mono ?_
    rintro e w1 ⟨v6', rfl, hr, hb⟩
    have HR6 := Aside0.mk (hr.new HX.out.1 HBW.out.size)
    have HB1 := Aside0.mk hb
    obtain ⟨WL, hw1, hw2⟩ := HL.out.wt
    obtain ⟨A8, c8, hv8, hc8⟩ := hw1.form
    subst hv8
    have HW1 := Aside0.mk (And.intro (hw1.below hb) hw2)
    clear hr hb hw1 y0 y1 y2 hcv
    go_upto_region 34 with fail
    refine waits_ok (S := S) (vo := vo) (v6 := v6') (v7 := v7) (fuse := 0) (down := true) (steps := steps) (v15 := .int .i64 8) ⟨rfl, rfl, rfl, rfl, rfl, rfl, rfl, rfl, rfl, rfl, rfl, rfl, rfl, rfl⟩ HW1.out.1 (by have h1 := HW1.out.2.len; have h2 := HX2.out; omega) (fun k hk => Nat.lt_of_lt_of_le (HX.out.1 k hk) HB1.out.size) (Nat.le_trans HBW.out.size HB1.out.size) ((HB1.out.block KB (blk_lt HBB.out)).trans HBB.out) _ ?_
    intro A' w' v8' hF hb hW
    have hL := (HL.out.below (below_step HB1.out hb)).put (v6' := v6') (v8' := v8') (fl := ⟨o.k, o.at_, ⟨bA, o.b.length, bc⟩, ⟨kA, o.keep.length, kc⟩, o.tear⟩) (i := o.at_) (l := o.b) (by have := HR6.out.below hb; rw [HX3.out.1, Int.toNat_natCast]; exact this) hw2 hW ⟨rfl, rfl, HX3.out.2.1⟩ HX3.out.2.2.1 HX3.out.2.2.2.1
    rw [← HX3.out.2.2.2.2, e1, e2, e3] at hL
    have hbb := below_step HB1.out hb
    go_wp2
    exact HQ.out _ _ _ _ _ _ _ _ hF hL hbb (by have := HST.out; omega) (by omega)
  · rw [if_neg q1] at hse
    rw [hse] at HQ
    have b1 : (fuse == 1) = false := beq_eq_false_iff_ne.2 q1
    have b2 : decide (0 < fuse) = true := decide_eq_true q2
    clear hse
    go_upto_region 33 with fail
    go_wp2_with fail
    refine (put_ok HL.out.n a HX.out.2.1 HX.out.2.2 (strOfNums o.b, false)).mono ?_
    rintro e w1 ⟨v6', rfl, hr, hb⟩
    have HR6 := Aside0.mk (hr.new HX.out.1 HBW.out.size)
    have HB1 := Aside0.mk hb
    obtain ⟨WL, hw1, hw2⟩ := HL.out.wt
    obtain ⟨A8, c8, hv8, hc8⟩ := hw1.form
    subst hv8
    have HW1 := Aside0.mk (And.intro (hw1.below hb) hw2)
    clear hr hb hw1 y0 y1 y2 hcv
    go_upto_region 34 with fail
    refine waits_ok (S := S) (vo := vo) (v6 := v6') (v7 := v7) (fuse := (fuse - 1)) (down := down) (steps := (steps + 1)) (v15 := .int .i64 0) ⟨rfl, rfl, rfl, rfl, rfl, rfl, rfl, rfl, rfl, rfl, rfl, rfl, rfl, rfl⟩ HW1.out.1 (by have h1 := HW1.out.2.len; have h2 := HX2.out; omega) (fun k hk => Nat.lt_of_lt_of_le (HX.out.1 k hk) HB1.out.size) (Nat.le_trans HBW.out.size HB1.out.size) ((HB1.out.block KB (blk_lt HBB.out)).trans HBB.out) _ ?_
    intro A' w' v8' hF hb hW
    have hL := (HL.out.below (below_step HB1.out hb)).put (v6' := v6') (v8' := v8') (fl := ⟨o.k, o.at_, ⟨bA, o.b.length, bc⟩, ⟨kA, o.keep.length, kc⟩, o.tear⟩) (i := o.at_) (l := o.b) (by have := HR6.out.below hb; rw [HX3.out.1, Int.toNat_natCast]; exact this) hw2 hW ⟨rfl, rfl, HX3.out.2.1⟩ HX3.out.2.2.1 HX3.out.2.2.2.1
    rw [← HX3.out.2.2.2.2, e1, e2, e3] at hL
    have hbb := below_step HB1.out hb
    go_wp2
    exact HQ.out _ _ _ _ _ _ _ _ hF hL hbb (by have := HST.out; omega) (by omega)
  · rw [if_neg q1] at hse
    rw [hse] at HQ
    have b1 : (fuse == 1) = false := beq_eq_false_iff_ne.2 q1
    have b2 : decide (0 < fuse) = false := decide_eq_false q2
    clear hse
    go_upto_region 33 with fail
    go_wp2_with fail
    refine (put_ok HL.out.n a HX.out.2.1 HX.out.2.2 (strOfNums o.b, false)).mono ?_
    rintro e w1 ⟨v6', rfl, hr, hb⟩
    have HR6 := Aside0.mk (hr.new HX.out.1 HBW.out.size)
    have HB1 := Aside0.mk hb
    obtain ⟨WL, hw1, hw2⟩ := HL.out.wt
    obtain ⟨A8, c8, hv8, hc8⟩ := hw1.form
    subst hv8
    have HW1 := Aside0.mk (And.intro (hw1.below hb) hw2)
    clear hr hb hw1 y0 y1 y2 hcv
    go_upto_region 34 with fail
    refine waits_ok (S := S) (vo := vo) (v6 := v6') (v7 := v7) (fuse := fuse) (down := down) (steps := (steps + 1)) (v15 := .int .i64 0) ⟨rfl, rfl, rfl, rfl, rfl, rfl, rfl, rfl, rfl, rfl, rfl, rfl, rfl, rfl⟩ HW1.out.1 (by have h1 := HW1.out.2.len; have h2 := HX2.out; omega) (fun k hk => Nat.lt_of_lt_of_le (HX.out.1 k hk) HB1.out.size) (Nat.le_trans HBW.out.size HB1.out.size) ((HB1.out.block KB (blk_lt HBB.out)).trans HBB.out) _ ?_
    intro A' w' v8' hF hb hW
    have hL := (HL.out.below (below_step HB1.out hb)).put (v6' := v6') (v8' := v8') (fl := ⟨o.k, o.at_, ⟨bA, o.b.length, bc⟩, ⟨kA, o.keep.length, kc⟩, o.tear⟩) (i := o.at_) (l := o.b) (by have := HR6.out.below hb; rw [HX3.out.1, Int.toNat_natCast]; exact this) hw2 hW ⟨rfl, rfl, HX3.out.2.1⟩ HX3.out.2.2.1 HX3.out.2.2.2.1
    rw [← HX3.out.2.2.2.2, e1, e2, e3] at hL
    have hbb := below_step HB1.out hb
    go_wp2
    exact HQ.out _ _ _ _ _ _ _ _ hF hL hbb (by have := HST.out; omega) (by omega)
set_option maxRecDepth 100000 in
set_option maxHeartbeats 8000000 in
theorem law_go2 (HF : Fr A n vo g v6 v7 v8 fuse down steps k (.pointer (some ⟨KB, 0, none⟩)) (.bool inn) (.int .i64 (wantF M o inn))) (HL : LR w wx S v6 v7 v8 fuse down steps M) (hS : ∀ k, S k → k < wx.heap.size) (hbW : Below w.heap.size w wx)
    (HB : wx.heap[KB]? = some (.cells #[.int .i64 o.k, .int .i64 o.at_, .slice bA o.b.length bc, .slice kA o.keep.length kc, .int .i64 o.tear] 36 (0, 0))) (hbC : Kd.C (Kd.int .u8) w bA o.b.length o.b) (hin : inn = decide (0 ≤ o.at_ ∧ o.at_ < M.now.length)) (hst : 0 ≤ steps ∧ steps ≤ k) (hk : k < 50) (hwl : M.wait.length ≤ 50) (hfu : fuse ≤ 9223372036854775807) (h2 : o.k = 2) (hw : wantF M o inn = 0)
    (Q : Exit → Act → World → Prop) (hQ : ∀ A' w' v6' v7' v8' f' d' s', Fr A' n vo g v6' v7' v8' f' d' s' k (.pointer (some ⟨KB, 0, none⟩)) (.bool inn) (.int .i64 (lastE M o)) → LR w w' S v6' v7' v8' f' d' s' (lastM M o) → Below wx.heap.size wx w' → (0 ≤ s' ∧ s' ≤ k + 1) → f' ≤ 9223372036854775807 → Q .normal ⟨A', []⟩ w') : Code.wp Try.prog (lawC Try.f7) Q ⟨A, []⟩ wx := by
  obtain ⟨hd, hE, hM⟩ := go_eq2 h2 hw
  have y0 : wx.cell? ⟨KB, 0, none⟩ = some (.int .i64 2) := by rw [← h2]; exact (blk_cell HB 0).trans rfl
  show Code.wp Try.prog (Code.seq _ _) Q ⟨A, []⟩ wx
  rw [HF.lit, hw]
  rw [hE, hM] at hQ
  have hso := step_of M (by rw [← HL.k]; omega) (by rw [← HL.k]; omega)
  have hse : M.stepE = if M.fuse = 1 then 8 else 0 := rfl
  have HLs := Aside0.mk (fun hf => HL.sync hd hf)
  have HLs1 := Aside0.mk (fun hf => HL.sync1 hd hf)
  have hff := HL.f
  have HFF := Aside0.mk hff
  rw [← HL.f, ← HL.k] at hso
  rw [← HL.d] at hso
  rw [← hff] at hse
  have HL := Aside0.mk HL
  have HST := Aside0.mk hst
  have HQ := Aside0.mk hQ
  have hs1 : 0 ≤ steps := hst.1
  have hs2 : steps < 1000 := by omega
  clear HF hQ hE hM hS hbC hin hwl hw hst hff
  rcases hso with ⟨q1, e1, e2, e3⟩ | ⟨q1, q2, e1, e2, e3⟩ | ⟨q1, q2, e1, e2, e3⟩
  · rw [if_pos q1] at hse
    rw [hse] at HQ
    have hL := HLs1.out (by rw [← HFF.out]; exact q1)
    have HL1 := Aside0.mk hL
    subst q1
    clear hse hL
    go_wp2
    exact HQ.out _ _ _ _ _ _ _ _ ⟨rfl, rfl, rfl, rfl, rfl, rfl, rfl, rfl, rfl, rfl, rfl, rfl, rfl, rfl⟩ HL1.out (Below.refl _ _) (by have := HST.out; omega) (by omega)
  · rw [if_neg q1] at hse
    rw [hse] at HQ
    have b1 : (fuse == 1) = false := beq_eq_false_iff_ne.2 q1
    have b2 : decide (0 < fuse) = true := decide_eq_true q2
    have hL := HLs.out (by rw [← HFF.out]; exact q1)
    rw [e1, e2, e3] at hL
    have HL1 := Aside0.mk hL
    clear hse hL
    go_wp2
    exact HQ.out _ _ _ _ _ _ _ _ ⟨rfl, rfl, rfl, rfl, rfl, rfl, rfl, rfl, rfl, rfl, rfl, rfl, rfl, rfl⟩ HL1.out (Below.refl _ _) (by have := HST.out; omega) (by omega)
  · rw [if_neg q1] at hse
    rw [hse] at HQ
    have b1 : (fuse == 1) = false := beq_eq_false_iff_ne.2 q1
    have b2 : decide (0 < fuse) = false := decide_eq_false q2
    have hL := HLs.out (by rw [← HFF.out]; exact q1)
    rw [e1, e2, e3] at hL
    have HL1 := Aside0.mk hL
    clear hse hL
    go_wp2
    exact HQ.out _ _ _ _ _ _ _ _ ⟨rfl, rfl, rfl, rfl, rfl, rfl, rfl, rfl, rfl, rfl, rfl, rfl, rfl, rfl⟩ HL1.out (Below.refl _ _) (by have := HST.out; omega) (by omega)
/-- The law's rows, whatever the operation. -/
theorem law_step (HF : Fr A n vo g v6 v7 v8 fuse down steps k (.pointer (some ⟨KB, 0, none⟩)) (.bool inn) (.int .i64 (wantF M o inn))) (HL : LR w wx S v6 v7 v8 fuse down steps M) (hS : ∀ k, S k → k < wx.heap.size) (hbW : Below w.heap.size w wx)
    (HB : wx.heap[KB]? = some (.cells #[.int .i64 o.k, .int .i64 o.at_, .slice bA o.b.length bc, .slice kA o.keep.length kc, .int .i64 o.tear] 36 (0, 0))) (hbC : Kd.C (Kd.int .u8) w bA o.b.length o.b) (hin : inn = decide (0 ≤ o.at_ ∧ o.at_ < M.now.length)) (hst : 0 ≤ steps ∧ steps ≤ k) (hk : k < 50) (hwl : M.wait.length ≤ 50) (hfu : fuse ≤ 9223372036854775807)
    (Q : Exit → Act → World → Prop) (hQ : ∀ A' w' v6' v7' v8' f' d' s', Fr A' n vo g v6' v7' v8' f' d' s' k (.pointer (some ⟨KB, 0, none⟩)) (.bool inn) (.int .i64 (lastE M o)) → LR w w' S v6' v7' v8' f' d' s' (lastM M o) → Below wx.heap.size wx w' → (0 ≤ s' ∧ s' ≤ k + 1) → f' ≤ 9223372036854775807 → Q .normal ⟨A', []⟩ w') : Code.wp Try.prog (lawC Try.f7) Q ⟨A, []⟩ wx := by
  by_cases hw : wantF M o inn ≠ 0 ∨ (o.k ≠ 0 ∧ o.k ≠ 2)
  · obtain ⟨hE, hM⟩ := skip_eq hin hw
    refine law_skip HF HB hw Q fun A' hF => ?_
    rw [← hE] at hF
    exact hQ _ _ _ _ _ _ _ _ hF (by rw [hM]; exact HL) (Below.refl _ _) (by omega) hfu
  · have hw0 : wantF M o inn = 0 := by omega
    by_cases h0 : o.k = 0
    · exact law_go0 HF HL hS hbW HB hbC hin hst hk hwl hfu h0 hw0 Q hQ
    · exact law_go2 HF HL hS hbW HB hbC hin hst hk hwl hfu (by omega) hw0 Q hQ
end
end DiskRuns
end Go.Proofs.Ytihmfccpgahmaaa.Dk
