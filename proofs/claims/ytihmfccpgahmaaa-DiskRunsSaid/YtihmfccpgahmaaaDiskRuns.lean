/- The law DiskRuns, walked: true, for whatever operations. -/
import Derived.Test.YtihmfccpgahmaaaDrO
import Derived.Test.YtihmfccpgahmaaaDrR
import Derived.Test.YtihmfccpgahmaaaBits
import Derived.Deep.CutRange
import Derived.Deep.CutBlock
namespace Go.Proofs.Ytihmfccpgahmaaa.Dk
open Go Go.RowKit Go.Proofs.YtihmfccpgahmaaaW.PrintWords Go.Proofs.YtihmfccpgahmaaaW.PrintMore Go.Proofs.YtihmfccpgahmaaaW.PrintLast Go.Proofs.Ytihmfccpgahmaaa.Str
set_option linter.unusedVariables false
set_option linter.unusedSimpArgs false
namespace DiskRuns
section
variable {w W wx : World} {S S' : Nat → Prop} {n k g KB : Nat} {vo v6 v7 v8 v13 v14 v15 : Value} {fuse : Int} {down : Bool} {steps : Int} {M : DA} {o : OpV} {A : Array Value} {bA kA : Option Addr} {bc kc : Nat} {inn : Bool}
/-- The disk's call, whatever the operation. -/
theorem do_any (HF : Fr A n vo g v6 v7 v8 fuse down steps k (.pointer (some ⟨KB, 0, none⟩)) v14 (.int .i64 (lastE M o))) (HS : St w wx g S M) (HL : LR w wx S v6 v7 v8 fuse down steps (lastM M o))
    (HB : wx.heap[KB]? = some (.cells #[.int .i64 o.k, .int .i64 o.at_, .slice bA o.b.length bc, .slice kA o.keep.length kc, .int .i64 o.tear] 36 (0, 0))) (hSB : ¬ S KB) (hwl : M.wait.length ≤ 50) (hst : 0 ≤ steps ∧ steps ≤ k + 1) (hfu : fuse ≤ 9223372036854775807) (hok : OpOk o) (hbC : Kd.C (Kd.int .u8) w bA o.b.length o.b) (hkC : Kd.C Kd.bool w kA o.keep.length o.keep) (hbl : o.b.length ≤ 600) (hkl : o.keep.length ≤ 60)
    (Q : Exit → Act → World → Prop) (hQ : ∀ A' w' S' v6' v7' v8' f' d' s' M' v14' v15', Fr A' n vo g v6' v7' v8' f' d' s' k (.pointer (some ⟨KB, 0, none⟩)) v14' v15' → St w w' g S' M' → LR w w' S' v6' v7' v8' f' d' s' M' → (M'.wait.length ≤ M.wait.length + 1 ∧ (0 ≤ s' ∧ s' ≤ k + 1) ∧ f' ≤ 9223372036854775807 ∧ M'.now.length = M.now.length) → Q .normal ⟨A', []⟩ w'): Code.wp Try.prog (unitC Try.f7) Q ⟨A, []⟩ wx := by
  by_cases h0 : o.k = 0
  · exact do_write HF HS HL HB hSB hwl hst hfu h0 hbC hbl Q hQ
  · by_cases h1 : o.k = 1
    · exact do_read HF HS HL HB hSB hwl hst hfu h1 Q hQ
    · by_cases h2 : o.k = 2
      · exact do_sync HF HS HL HB hSB hwl hst hfu h2 Q hQ
      · by_cases h3 : o.k = 3
        · exact do_fuse HF HS HL HB hSB hwl hst hfu h3 (by have := (bounds_i64 hok.2.1).2; omega) Q hQ
        · by_cases h4 : o.k = 4
          · exact do_on HF HS HL HB hSB hwl hst hfu h4 hkC hkl Q hQ
          · by_cases h5 : o.k = 5
            · exact do_off HF HS HL HB hSB hwl hst hfu h5 Q hQ
            · exact do_none HF HS HL HB hSB hwl hst hfu ⟨h0, h1, h2, h3, h4, h5⟩ Q hQ
set_option maxRecDepth 100000 in
set_option maxHeartbeats 8000000 in
theorem end_ok (HF : Fr A n vo g v6 v7 v8 fuse down steps k v13 v14 v15) (HS : St w wx g S M) (HL : LR w wx S v6 v7 v8 fuse down steps M) (hn : M.now.length = n)
    (Q : Exit → Act → World → Prop) (hQ : ∀ A', Fr A' n vo g v6 v7 v8 fuse down steps k v13 v14 v15 → Q .normal ⟨A', []⟩ wx) : Code.wp Try.prog (endC Try.f7) Q ⟨A, []⟩ wx := by
  show Code.wp Try.prog (Code.seq _ _) Q ⟨A, []⟩ wx
  rw [HF.lit]
  obtain ⟨WL, hw1, hw2⟩ := HL.wt
  obtain ⟨A8, c8, rfl, hc8⟩ := hw1.form
  have hwl : WL.length = M.wait.length := hw2.len
  have HQ := Aside0.mk hQ
  have HI := Aside0.mk (And.intro HS.I (And.intro HL.d (And.intro HL.k (And.intro hwl hn))))
  clear HF HL hQ hw1 hw2 hwl hn
  go_wp2_with fail
  refine (down_a HI.out.1).mono ?_
  rw [← HI.out.2.1]
  rintro e w' ⟨rfl, hq⟩
  have hq2 := hq.symm
  clear hq
  subst hq2
  go_wp2_with fail
  refine (steps_a HI.out.1).mono ?_
  rw [← HI.out.2.2.1]
  rintro e w' ⟨rfl, hq⟩
  have hq2 := hq.symm
  clear hq
  subst hq2
  go_wp2_with fail
  refine (waits_a HI.out.1).mono ?_
  rw [← HI.out.2.2.2.1]
  rintro e w' ⟨rfl, hq⟩
  have hq2 := hq.symm
  clear hq
  subst hq2
  go_wp2_with fail
  refine (len_a HI.out.1).mono ?_
  rw [HI.out.2.2.2.2]
  rintro e w' ⟨rfl, hq⟩
  have hq2 := hq.symm
  clear hq
  subst hq2
  go_wp2
  exact HQ.out _ ⟨rfl, rfl, rfl, rfl, rfl, rfl, rfl, rfl, rfl, rfl, rfl, rfl, rfl, rfl⟩
/-- At a round's begin. -/
def Inv (w : World) (n : Nat) (vo : Value) (g k : Nat) (A : Array Value) (wx : World) : Prop :=
  ∃ (v6 v7 v8 : Value) (fuse : Int) (down : Bool) (steps : Int) (v13 v14 v15 : Value) (S : Nat → Prop) (M : DA), Fr A n vo g v6 v7 v8 fuse down steps k v13 v14 v15 ∧ St w wx g S M ∧ LR w wx S v6 v7 v8 fuse down steps M ∧ M.now.length = n ∧ M.wait.length ≤ k ∧ (0 ≤ steps ∧ steps ≤ k) ∧ fuse ≤ 9223372036854775807
set_option maxRecDepth 100000 in
set_option maxHeartbeats 8000000 in
theorem round {A1 : Option Addr} {c1 : Nat} {ops : List OpV} (hI : Inv w n (.slice A1 ops.length c1) g k A wx) (hl1 : k < ops.length) (hl2 : k < 50) (hCo : Kd.C kOp w A1 ops.length ops) (hwo : ∀ x ∈ ops, OpOk x) (hO : ops.length ≤ 9223372036854775807)
    (Q : Exit → Act → World → Prop) (hQ : ∀ A' w', Inv w n (.slice A1 ops.length c1) g (k + 1) A' w' → Q .normal ⟨A', []⟩ w') : Code.wp Try.prog (roundC Try.f7) Q ⟨A, []⟩ wx := by
  obtain ⟨v6, v7, v8, fuse, down, steps, v13, v14, v15, S, M, HF, hS, hL, hn, hwl, hst, hfu⟩ := hI
  show Code.wp Try.prog (Code.seq (Code.seq _ _) _) Q ⟨A, []⟩ wx
  rw [HF.lit]
  have HS := Aside0.mk hS
  have HL := Aside0.mk hL
  have HFU := Aside0.mk hfu
  have HCO := Aside0.mk (And.intro hCo hwo)
  have HQ := Aside0.mk hQ
  have HJ := Aside0.mk (show k < ops.length ∧ k < 50 ∧ (0 ≤ steps ∧ steps ≤ k) ∧ M.now.length = n ∧ M.wait.length ≤ k from ⟨hl1, hl2, hst, hn, hwl⟩)
  have b40 : decide ((k : Int) < 50) = true := decide_eq_true (by omega)
  have bop : decide ((k : Int) < (ops.length : Int)) = true := decide_eq_true (by omega)
  obtain ⟨ad, bA, bc, kA, kc, hA1, d0, d1, d2, d3, d4, f1, f2, f3, f4⟩ := op_at HCO.out.1 k hl1
  subst hA1
  obtain ⟨o, ho⟩ : ∃ o, o = ops[k] := ⟨_, rfl⟩
  rw [← ho] at d0 d1 d2 d3 d4 f1 f2 f3 f4
  have HOP := Aside0.mk (show OpOk o ∧ Kd.C (Kd.int .u8) w bA o.b.length o.b ∧ Kd.C Kd.bool w kA o.keep.length o.keep ∧ o.b.length ≤ bc ∧ o.keep.length ≤ kc from ⟨by rw [ho]; exact HCO.out.2 _ (List.getElem_mem _), f2, f4, f1, f3⟩)
  have hbl := f2.2.1
  have hkl := f4.2.1
  have x0 := up_cell HS.out.B d0
  have x1 := up_cell HS.out.B d1
  have x2 := up_cell HS.out.B d2
  have x3 := up_cell HS.out.B d3
  have x4 := up_cell HS.out.B d4
  clear HF hS hL hn hwl hst hfu hCo hwo hQ ho d0 d1 d2 d3 d4 f1 f2 f3 f4
  go_upto_region 15 with fail
  have BX := Aside0.mk (blk_new wx (.cells #[.int .i64 o.k, .int .i64 o.at_, .slice bA o.b.length bc, .slice kA o.keep.length kc, .int .i64 o.tear] 36 (0, 0)))
  have hbal := below_alloc (Below.refl wx.heap.size wx) (.cells #[.int .i64 o.k, .int .i64 o.at_, .slice bA o.b.length bc, .slice kA o.keep.length kc, .int .i64 o.tear] 36 (0, 0))
  have HSa := Aside0.mk (HS.out.below hbal)
  have HLa := Aside0.mk (HL.out.below hbal)
  obtain ⟨KB, hKB⟩ : ∃ m : Nat, m = wx.heap.size := ⟨_, rfl⟩
  have hSK : ¬ S KB := fun h => by have := (HS.out.lt KB h).2; omega
  rw [← hKB] at BX ⊢
  clear hbal
  generalize wx.alloc _ = wa at BX HSa HLa ⊢
  have HKB := Aside0.mk (And.intro BX.out (And.intro hSK (fun k hk => (HSa.out.lt k hk).2)))
  clear hKB x0 x1 x2 x3 x4 BX hSK HS HL
  have x0 : wa.cell? ⟨KB, 0, none⟩ = some (.int .i64 o.k) := (blk_cell HKB.out.1 0).trans rfl
  have x1 : wa.cell? ⟨KB, 1, none⟩ = some (.int .i64 o.at_) := (blk_cell HKB.out.1 1).trans rfl
  have x2 : wa.cell? ⟨KB, 2, none⟩ = some (.slice bA o.b.length bc) := (blk_cell HKB.out.1 2).trans rfl
  have x3 : wa.cell? ⟨KB, 3, none⟩ = some (.slice kA o.keep.length kc) := (blk_cell HKB.out.1 3).trans rfl
  have x4 : wa.cell? ⟨KB, 4, none⟩ = some (.int .i64 o.tear) := (blk_cell HKB.out.1 4).trans rfl
  have hlong : (decide (600 < o.b.length) = true ∧ decide ((600 : Int) < (o.b.length : Int)) = true) ∨ ((decide (600 < o.b.length) = false ∧ decide ((600 : Int) < (o.b.length : Int)) = false) ∧ decide (60 < o.keep.length) = true ∧ decide ((60 : Int) < (o.keep.length : Int)) = true) ∨ ((decide (600 < o.b.length) = false ∧ decide ((600 : Int) < (o.b.length : Int)) = false) ∧ (decide (60 < o.keep.length) = false ∧ decide ((60 : Int) < (o.keep.length : Int)) = false) ∧ o.b.length ≤ 600 ∧ o.keep.length ≤ 60) := by
    rcases Nat.lt_or_ge 600 o.b.length with h | h
    · exact .inl ⟨decide_eq_true h, decide_eq_true (by omega)⟩
    · rcases Nat.lt_or_ge 60 o.keep.length with h2 | h2
      · exact .inr (.inl ⟨⟨decide_eq_false (by omega), decide_eq_false (by omega)⟩, decide_eq_true h2, decide_eq_true (by omega)⟩)
      · exact .inr (.inr ⟨⟨decide_eq_false (by omega), decide_eq_false (by omega)⟩, ⟨decide_eq_false (by omega), decide_eq_false (by omega)⟩, h, h2⟩)
  rcases hlong with ⟨b5, b6⟩ | ⟨⟨b5, b6⟩, b7, b8⟩ | ⟨⟨b5, b6⟩, ⟨b7, b8⟩, hb6, hk6⟩
  · go_wp2
    exact HQ.out _ _ ⟨v6, v7, v8, fuse, down, steps, _, _, _, S, M, ⟨rfl, rfl, rfl, rfl, rfl, rfl, rfl, rfl, rfl, rfl, rfl, rfl, rfl, rfl⟩, HSa.out, HLa.out, HJ.out.2.2.2.1, by have := HJ.out; omega, by have := HJ.out; omega, HFU.out⟩
  · go_wp2
    exact HQ.out _ _ ⟨v6, v7, v8, fuse, down, steps, _, _, _, S, M, ⟨rfl, rfl, rfl, rfl, rfl, rfl, rfl, rfl, rfl, rfl, rfl, rfl, rfl, rfl⟩, HSa.out, HLa.out, HJ.out.2.2.2.1, by have := HJ.out; omega, by have := HJ.out; omega, HFU.out⟩
  · have HBL := Aside0.mk (And.intro hb6 hk6)
    clear hb6 hk6
    go_upto_region 16 with fail
    clear b5 b6 b7 b8
    rcases Int.lt_or_le o.at_ 0 with h | h
    · have hin := Aside0.mk (show (false : Bool) = decide (0 ≤ o.at_ ∧ o.at_ < (n : Int)) from (decide_eq_false (by omega)).symm)
      have c0 : decide (0 ≤ o.at_) = false := decide_eq_false (by omega)
      clear h
      go_upto_block 2 with fail
      refine want_ok (vo := .slice (some ad) ops.length c1) (v6 := v6) (v7 := v7) (v8 := v8) (inn := false) ⟨rfl, rfl, rfl, rfl, rfl, rfl, rfl, rfl, rfl, rfl, rfl, rfl, rfl, rfl⟩ HLa.out HJ.out.2.2.2.1 HKB.out.1 (by exact hin.out) _ ?_
      intro A' hF
      refine useK (c := crn 5 (blk1C Try.f7)) (by assumption) ?_
      show Code.wp Try.prog (Code.seq (lawC Try.f7) (crn 6 (blk1C Try.f7))) _ _ _
      refine wp_seq_k (fun K1 hK1 => ?_)
      refine law_step hF HLa.out HKB.out.2.2 HSa.out.B HKB.out.1 HOP.out.2.1 (by rw [HJ.out.2.2.2.1]; exact hin.out) (by have := HJ.out; omega) HJ.out.2.1 (by have := HJ.out; omega) HFU.out _ ?_
      intro A2 w2 v6' v7' v8' f' d' s' hF2 hL2 hb2 hs2 hf2
      refine hK1 _ _ ?_
      show Code.wp Try.prog (Code.seq (unitC Try.f7) (crn 7 (blk1C Try.f7))) _ _ _
      refine wp_seq_k (fun K2 hK2 => ?_)
      refine do_any hF2 (HSa.out.below hb2) hL2 ((hb2.block KB (blk_lt HKB.out.1)).trans HKB.out.1) HKB.out.2.1 (by have := HJ.out; omega) hs2 hf2 HOP.out.1 HOP.out.2.1 HOP.out.2.2.1 HBL.out.1 HBL.out.2 _ ?_
      intro A3 w3 S3 v63 v73 v83 f3 d3 s3 M3 v143 v153 hF3 hS3 hL3 hq3
      refine hK2 _ _ ?_
      refine end_ok hF3 hS3 hL3 (by rw [hq3.2.2.2]; exact HJ.out.2.2.2.1) _ ?_
      intro A4 hF4
      rw [hF4.lit]
      have HFIN := Aside0.mk (And.intro hS3 (And.intro hL3 hq3))
      clear hF hF2 hL2 hb2 hs2 hf2 hF3 hS3 hL3 hq3 hF4 x0 x1 x2 x3 x4
      go_wp2
      exact HQ.out _ _ ⟨v63, v73, v83, f3, d3, s3, _, _, _, S3, M3, ⟨rfl, rfl, rfl, rfl, rfl, rfl, rfl, rfl, rfl, rfl, rfl, rfl, rfl, rfl⟩, HFIN.out.1, HFIN.out.2.1, by rw [HFIN.out.2.2.2.2.2]; exact HJ.out.2.2.2.1, by have := HFIN.out.2.2; have := HJ.out; omega, by have := HFIN.out.2.2; omega, HFIN.out.2.2.2.2.1⟩
    · rcases Int.lt_or_le o.at_ (n : Int) with h2 | h2
      · have hin := Aside0.mk (show (true : Bool) = decide (0 ≤ o.at_ ∧ o.at_ < (n : Int)) from (decide_eq_true ⟨h, h2⟩).symm)
        have c0 : decide (0 ≤ o.at_) = true := decide_eq_true h
        have c1' : decide (o.at_ < (n : Int)) = true := decide_eq_true h2
        clear h h2
        go_upto_block 2 with fail
        refine want_ok (vo := .slice (some ad) ops.length c1) (v6 := v6) (v7 := v7) (v8 := v8) (inn := true) ⟨rfl, rfl, rfl, rfl, rfl, rfl, rfl, rfl, rfl, rfl, rfl, rfl, rfl, rfl⟩ HLa.out HJ.out.2.2.2.1 HKB.out.1 (by exact hin.out) _ ?_
        intro A' hF
        refine useK (c := crn 5 (blk1C Try.f7)) (by assumption) ?_
        show Code.wp Try.prog (Code.seq (lawC Try.f7) (crn 6 (blk1C Try.f7))) _ _ _
        refine wp_seq_k (fun K1 hK1 => ?_)
        refine law_step hF HLa.out HKB.out.2.2 HSa.out.B HKB.out.1 HOP.out.2.1 (by rw [HJ.out.2.2.2.1]; exact hin.out) (by have := HJ.out; omega) HJ.out.2.1 (by have := HJ.out; omega) HFU.out _ ?_
        intro A2 w2 v6' v7' v8' f' d' s' hF2 hL2 hb2 hs2 hf2
        refine hK1 _ _ ?_
        show Code.wp Try.prog (Code.seq (unitC Try.f7) (crn 7 (blk1C Try.f7))) _ _ _
        refine wp_seq_k (fun K2 hK2 => ?_)
        refine do_any hF2 (HSa.out.below hb2) hL2 ((hb2.block KB (blk_lt HKB.out.1)).trans HKB.out.1) HKB.out.2.1 (by have := HJ.out; omega) hs2 hf2 HOP.out.1 HOP.out.2.1 HOP.out.2.2.1 HBL.out.1 HBL.out.2 _ ?_
        intro A3 w3 S3 v63 v73 v83 f3 d3 s3 M3 v143 v153 hF3 hS3 hL3 hq3
        refine hK2 _ _ ?_
        refine end_ok hF3 hS3 hL3 (by rw [hq3.2.2.2]; exact HJ.out.2.2.2.1) _ ?_
        intro A4 hF4
        rw [hF4.lit]
        have HFIN := Aside0.mk (And.intro hS3 (And.intro hL3 hq3))
        clear hF hF2 hL2 hb2 hs2 hf2 hF3 hS3 hL3 hq3 hF4 x0 x1 x2 x3 x4
        go_wp2
        exact HQ.out _ _ ⟨v63, v73, v83, f3, d3, s3, _, _, _, S3, M3, ⟨rfl, rfl, rfl, rfl, rfl, rfl, rfl, rfl, rfl, rfl, rfl, rfl, rfl, rfl⟩, HFIN.out.1, HFIN.out.2.1, by rw [HFIN.out.2.2.2.2.2]; exact HJ.out.2.2.2.1, by have := HFIN.out.2.2; have := HJ.out; omega, by have := HFIN.out.2.2; omega, HFIN.out.2.2.2.2.1⟩
      · have hin := Aside0.mk (show (false : Bool) = decide (0 ≤ o.at_ ∧ o.at_ < (n : Int)) from (decide_eq_false (by omega)).symm)
        have c0 : decide (0 ≤ o.at_) = true := decide_eq_true h
        have c1' : decide (o.at_ < (n : Int)) = false := decide_eq_false (by omega)
        clear h h2
        go_upto_block 2 with fail
        refine want_ok (vo := .slice (some ad) ops.length c1) (v6 := v6) (v7 := v7) (v8 := v8) (inn := false) ⟨rfl, rfl, rfl, rfl, rfl, rfl, rfl, rfl, rfl, rfl, rfl, rfl, rfl, rfl⟩ HLa.out HJ.out.2.2.2.1 HKB.out.1 (by exact hin.out) _ ?_
        intro A' hF
        refine useK (c := crn 5 (blk1C Try.f7)) (by assumption) ?_
        show Code.wp Try.prog (Code.seq (lawC Try.f7) (crn 6 (blk1C Try.f7))) _ _ _
        refine wp_seq_k (fun K1 hK1 => ?_)
        refine law_step hF HLa.out HKB.out.2.2 HSa.out.B HKB.out.1 HOP.out.2.1 (by rw [HJ.out.2.2.2.1]; exact hin.out) (by have := HJ.out; omega) HJ.out.2.1 (by have := HJ.out; omega) HFU.out _ ?_
        intro A2 w2 v6' v7' v8' f' d' s' hF2 hL2 hb2 hs2 hf2
        refine hK1 _ _ ?_
        show Code.wp Try.prog (Code.seq (unitC Try.f7) (crn 7 (blk1C Try.f7))) _ _ _
        refine wp_seq_k (fun K2 hK2 => ?_)
        refine do_any hF2 (HSa.out.below hb2) hL2 ((hb2.block KB (blk_lt HKB.out.1)).trans HKB.out.1) HKB.out.2.1 (by have := HJ.out; omega) hs2 hf2 HOP.out.1 HOP.out.2.1 HOP.out.2.2.1 HBL.out.1 HBL.out.2 _ ?_
        intro A3 w3 S3 v63 v73 v83 f3 d3 s3 M3 v143 v153 hF3 hS3 hL3 hq3
        refine hK2 _ _ ?_
        refine end_ok hF3 hS3 hL3 (by rw [hq3.2.2.2]; exact HJ.out.2.2.2.1) _ ?_
        intro A4 hF4
        rw [hF4.lit]
        have HFIN := Aside0.mk (And.intro hS3 (And.intro hL3 hq3))
        clear hF hF2 hL2 hb2 hs2 hf2 hF3 hS3 hL3 hq3 hF4 x0 x1 x2 x3 x4
        go_wp2
        exact HQ.out _ _ ⟨v63, v73, v83, f3, d3, s3, _, _, _, S3, M3, ⟨rfl, rfl, rfl, rfl, rfl, rfl, rfl, rfl, rfl, rfl, rfl, rfl, rfl, rfl⟩, HFIN.out.1, HFIN.out.2.1, by rw [HFIN.out.2.2.2.2.2]; exact HJ.out.2.2.2.1, by have := HFIN.out.2.2; have := HJ.out; omega, by have := HFIN.out.2.2; omega, HFIN.out.2.2.2.2.1⟩
theorem NS_rep (n : Nat) : NS (List.replicate n []) (List.replicate n false) = List.replicate n (ByteArray.empty, false) := by
  unfold NS
  rw [List.map_replicate]
  have e : strOfNums [] = ByteArray.empty := rfl
  rw [e]
  induction n with
  | zero => rfl
  | succ n ih => rw [List.replicate_succ, List.replicate_succ, List.replicate_succ]; exact congrArg _ ih
theorem new_LR {w2 w3 w4 : World} {v6 v7 : Value} {n : Nat} (hn : n ≤ 15) (hS : ∀ k, S k → k < w2.heap.size) (hb : w.heap.size ≤ w2.heap.size) (h6 : SR w2.heap.size (fun _ => True) w3 v6 (List.replicate n (ByteArray.empty, false))) (hb3 : Below w2.heap.size w2 w3) (h7 : SR w3.heap.size (fun _ => True) w4 v7 (List.replicate n (ByteArray.empty, false))) (hb4 : Below w3.heap.size w3 w4) :
    LR w (w4.alloc (.cells #[] 36)) S v6 v7 (.slice (some ⟨w4.heap.size, 0, none⟩) 0 0) 0 false 0 (DA.new n) := by
  have hS3 : ∀ k, S k → k < w3.heap.size := fun k hk => Nat.lt_of_lt_of_le (hS k hk) hb3.size
  have b5 := below_alloc (Below.refl w4.heap.size w4) (.cells #[] 36)
  refine { n := ?_, s := ?_, wt := ⟨[], ⟨_, 0, rfl, Nat.le_refl _, Nat.zero_le _, fun h => absurd h (Nat.lt_irrefl _)⟩, trivial⟩, f := rfl, d := rfl, k := rfl, l1 := rfl, l2 := rfl, t1 := ?_, t2 := rfl, t3 := ?_, t4 := ?_ }
  · show SR _ _ _ v6 (NS (List.replicate n []) (List.replicate n false))
    rw [NS_rep]
    exact (((h6.new hS hb).below hb4).below b5)
  · show SR _ _ _ v7 (NS (List.replicate n []) (List.replicate n false))
    rw [NS_rep]
    exact ((h7.new hS3 (Nat.le_trans hb hb3.size)).below b5)
  · show (List.replicate n false).length = (List.replicate n ([] : List Int)).length
    rw [List.length_replicate, List.length_replicate]
  · show (List.replicate n false).length = (List.replicate n ([] : List Int)).length
    rw [List.length_replicate, List.length_replicate]
  · show (List.replicate n ([] : List Int)).length ≤ _
    rw [List.length_replicate]; omega
set_option maxRecDepth 100000 in
set_option maxHeartbeats 8000000 in
theorem law_n (n0 : Int) (A1 : Option Addr) (c1 : Nat) (ops : List OpV) (w : World) (hco : ops.length ≤ c1) (hCo : Kd.C kOp w A1 ops.length ops) (hwo : ∀ x ∈ ops, OpOk x) (n : Nat) (h1 : bits .and .i64 n0 15 = (n : Int)) (hn : n ≤ 15) :
    Calls Try.prog 7 #[.int .i64 n0, .slice A1 ops.length c1] w fun e w' => e = .returned (.bool true) ∧ Below w.heap.size w w' := by
  have hO := hCo.2.1
  have HCO := Aside0.mk (And.intro hCo hwo)
  have HN := Aside0.mk hn
  have HNN := Aside0.mk (show (newN (n : Int)).toNat = n from by unfold newN; repeat' split <;> omega)
  clear hCo hwo hco
  go_enter Try.func7, Try.ntmps7
  go_wp2_with fail
  refine (head_ok _).mono ?_
  rintro e w1 ⟨rfl, hb⟩
  have HB := Aside0.mk hb
  clear hb
  go_wp2_with fail
  refine (st_new (w0 := w) _ _ HB.out).mono ?_
  rw [HNN.out]
  rintro e w2 ⟨g, S, rfl, hi, hb, hs⟩
  have HI := Aside0.mk (show St w w2 g S (DA.new n) from hi)
  clear hi HB hb hs
  go_upto_region 6 with ((with_reducible refine gate_dst (N := 32) rfl ?_); refine Kd.R_make kSl (w0 := w2) w2.heap.size 45 rfl (N := 32) rfl 43 _ _ rfl (n : Int) rfl rfl Try.underlying43 (.agg #[.string ByteArray.empty, .bool false]) 24 infoSc rfl (by decide) (by decide) (ByteArray.empty, false) (ok := fun _ => True) (okp := fun _ => True) ⟨[.string ByteArray.empty], [.bool false], rfl, rfl, rfl⟩ (fun _ hk => hk) trivial (Int.natCast_nonneg _) (by rw [Int.toNat_natCast]; have := HN.out; omega) (Below.refl _ _) (Nat.le_refl _) ?_; intro v6 w3 hR hB _ _; have HR32 := Aside0.mk (FR.of_R kSl (f := fS) rfl kSl_K (fun _ => rfl) hR); have HB32 := Aside0.mk hB; clear hR hB)
  go_upto_region 7 with ((with_reducible refine gate_dst (N := 34) rfl ?_); refine Kd.R_make kSl (w0 := w3) w3.heap.size 45 rfl (N := 34) rfl 43 _ _ rfl (n : Int) rfl rfl Try.underlying43 (.agg #[.string ByteArray.empty, .bool false]) 24 infoSc rfl (by decide) (by decide) (ByteArray.empty, false) (ok := fun _ => True) (okp := fun _ => True) ⟨[.string ByteArray.empty], [.bool false], rfl, rfl, rfl⟩ (fun _ hk => hk) trivial (Int.natCast_nonneg _) (by rw [Int.toNat_natCast]; have := HN.out; omega) (Below.refl _ _) (Nat.le_refl _) ?_; intro v7 w4 hR hB _ _; have HR34 := Aside0.mk (FR.of_R kSl (f := fS) rfl kSl_K (fun _ => rfl) hR); have HB34 := Aside0.mk hB; clear hR hB)
  have HL := Aside0.mk (new_LR (w := w) (S := S) (v6 := v6) (v7 := v7) hn (fun k hk => (HI.out.lt k hk).2) HI.out.B.size (by have := HR32.out; rw [Int.toNat_natCast] at this; exact this) HB32.out (by have := HR34.out; rw [Int.toNat_natCast] at this; exact this) HB34.out)
  have HS := Aside0.mk (((HI.out.below HB32.out).below HB34.out).below (below_alloc (Below.refl w4.heap.size w4) (.cells #[] 36)))
  clear HR32 HR34 HB32 HB34 HI
  go_wp2
  generalize (w4.alloc (.cells #[] 36)) = wk at HL HS ⊢
  generalize w4.heap.size = kh at HL ⊢
  refine wp_loop (fun a' wr => ∃ (A : Array Value) (k : Nat), a' = ⟨A, []⟩ ∧ k ≤ 50 ∧ k ≤ ops.length ∧ Inv w n (.slice A1 ops.length c1) g k A wr) (fun a' _ => 50 - (intOf (a'.tmps.getD 12 undef)).toNat) ?_ ?_
  · exact ⟨_, 0, rfl, Nat.zero_le _, Nat.zero_le _, v6, v7, _, 0, false, 0, _, _, _, S, _, ⟨rfl, rfl, rfl, rfl, rfl, rfl, rfl, rfl, rfl, rfl, rfl, rfl, rfl, rfl⟩, HS.out, HL.out, List.length_replicate, Nat.le_refl _, ⟨Int.le_refl _, Int.le_refl _⟩, by decide⟩
  · rintro a' wr ⟨A, k, rfl, hk, hko, hI⟩
    clear HL HS
    by_cases hlt : k < ops.length ∧ k < 50
    · refine round hI hlt.1 hlt.2 HCO.out.1 HCO.out.2 hO _ ?_
      intro A' w' hI'
      refine ⟨⟨A', k + 1, rfl, hlt.2, hlt.1, hI'⟩, ?_⟩
      obtain ⟨_, _, _, _, _, _, _, _, _, _, _, HF, _⟩ := hI
      obtain ⟨_, _, _, _, _, _, _, _, _, _, _, HF', _⟩ := hI'
      have h40 := hlt.2
      show 50 - (intOf (A'.getD 12 undef)).toNat < 50 - (intOf (A.getD 12 undef)).toNat
      rw [HF.e12, HF'.e12]
      simp only [intOf, Int.toNat_natCast]
      omega
    · obtain ⟨v6', v7', v8', fuse, down, steps, v13, v14, v15, S', M, HF, hS, hL, _⟩ := hI
      rw [HF.lit]
      have hbb : decide (k < ops.length) = false ∨ (decide (k < ops.length) = true ∧ k < ops.length ∧ decide ((k : Int) < 50) = false) := by
        rcases Nat.lt_or_ge k ops.length with h | h
        · exact .inr ⟨decide_eq_true h, h, decide_eq_false (by omega)⟩
        · exact .inl (decide_eq_false (by omega))
      have HBE := Aside0.mk hS.B
      clear hlt hko HF hS hL
      rcases hbb with bb | ⟨bb, bb2, bb3⟩
      all_goals
        go_wp2
        go_ret
        exact ⟨rfl, HBE.out⟩
theorem law_ok (n : Int) (A1 : Option Addr) (c1 : Nat) (ops : List OpV) (w : World) (hn : (Lit.int .i64 n).wf = true) (hco : ops.length ≤ c1) (hCo : Kd.C kOp w A1 ops.length ops) (hwo : ∀ x ∈ ops, OpOk x) :
    Calls Try.prog 7 #[.int .i64 n, .slice A1 ops.length c1] w fun e w' => e = .returned (.bool true) ∧ Below w.heap.size w w' := by
  have e1 := Bits.and_15 n
  exact law_n n A1 c1 ops w hco hCo hwo (n % 16).toNat (by rw [e1]; omega) (by omega)
end
end DiskRuns
end Go.Proofs.Ytihmfccpgahmaaa.Dk
