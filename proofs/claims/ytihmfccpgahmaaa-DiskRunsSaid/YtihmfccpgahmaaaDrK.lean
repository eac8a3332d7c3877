/- The law DiskRuns: Write, walked. No conditions beyond those that are named. -/
import Derived.Test.YtihmfccpgahmaaaDrD
namespace Go.Proofs.Ytihmfccpgahmaaa.Dk
open Go Go.RowKit Go.Proofs.YtihmfccpgahmaaaW.PrintWords Go.Proofs.YtihmfccpgahmaaaW.PrintMore Go.Proofs.YtihmfccpgahmaaaW.PrintLast Go.Proofs.Ytihmfccpgahmaaa.Str
set_option linter.unusedVariables false
set_option linter.unusedSimpArgs false
theorem infoU8 : (Try.prog.info? 5).map (fun i => (i.zero, i.size, i.bytes)) = some (some (.int .u8 0), 1, 1) := by kernel_rfl
theorem byt_keep {w W : World} {e base : Nat} {S : Nat → Prop} {v : Value} {l : List Int} (h : (Kd.int .u8).R e w base (fun k => base ≤ k) v l) (hk : Kept w W S) (hS : ∀ k, S k → k < base) : (Kd.int .u8).R e W base (fun k => base ≤ k) v l :=
  Kd.R_mono (Kd.R_step (Kd.R_bound h) (fun k hq hlt => hk.block k hlt (fun hs => by have := hS k hs; have := hq.2.1; omega))) (fun _ hq => hq.1)
theorem wr_wait {M : DA} {i : Int} {l : List Int} : (M.wr i l).wait.length ≤ M.wait.length + 1 := by
  unfold DA.wr
  split
  · have e : M.step.wait = M.wait := by
      unfold DA.step
      split
      · rfl
      · split <;> rfl
    show (M.step.wait ++ [(i, l)]).length ≤ _
    rw [e, List.length_append]
    exact Nat.le_refl _
  · exact Nat.le_succ _
/-- A byte of one's own row is turned. -/
theorem xor_step {w wr : World} {base j n c : Nat} {A : Option Addr} (h : Kept w wr (fun k => (Value.slice A n c).ownBlock = some k) ∧ ∃ l' : List Int, l'.length = n ∧ (Kd.int .u8).R 5 wr base (fun k => base ≤ k) (.slice A n c) l') (hj : j < n) :
    ∃ g3 y, A = some ⟨g3, 0, none⟩ ∧ wr.cell? ⟨g3, j, none⟩ = some (.int .u8 y) ∧ wr.frozen? ⟨g3, j, none⟩ = false ∧ ∀ u, Aside0 (Kept w (wr.setCell ⟨g3, j, none⟩ (.int .u8 u)) (fun k => (Value.slice A n c).ownBlock = some k) ∧ ∃ l' : List Int, l'.length = n ∧ (Kd.int .u8).R 5 (wr.setCell ⟨g3, j, none⟩ (.int .u8 u)) base (fun k => base ≤ k) (.slice A n c) l') := by
  obtain ⟨hK, l', hl, hr⟩ := h
  obtain ⟨g3, q3, e3, hg3, hg4, _⟩ := Kd.R_form hr (by omega)
  injection e3 with e3 _ _
  subst e3
  have hc := Kd.R_celln (enc := Value.int .u8) (h1 := fun _ => rfl) 0 hr (j : Int) (by omega) (by omega)
  rw [Int.toNat_natCast] at hc
  refine ⟨g3, _, rfl, hc.1, hc.2, fun u => ⟨hK.setCell (.inl (by simp [Value.ownBlock])) _, l'.set j u, by rw [List.length_set]; exact hl, ?_⟩⟩
  have h2 := (Kd.R_putg (enc := Value.int .u8) (h1 := fun _ => rfl) hr (j : Int) u).1
  rw [Int.toNat_natCast] at h2
  exact h2
theorem Kept.below_of {w0 w W : World} {T : Nat → Prop} (h : Kept w W T) (hB : Below w0.heap.size w0 w) (hT : ∀ k, T k → w0.heap.size ≤ k) : Below w0.heap.size w0 W :=
  ⟨h.os.trans hB.os, h.tape.trans hB.tape, h.output.trans hB.output, Nat.le_trans hB.size h.size, fun k hk => (h.block k (Nat.lt_of_lt_of_le hk hB.size) (fun q => by have := hT k q; omega)).trans (hB.block k hk)⟩
namespace DiskRuns
section
variable {w W wx : World} {S S' : Nat → Prop} {n k g KB : Nat} {vo v6 v7 v8 v14 v15 : Value} {fuse : Int} {down : Bool} {steps : Int} {M : DA} {o : OpV} {A : Array Value} {bA kA : Option Addr} {bc kc : Nat} {inn : Bool}
set_option maxRecDepth 100000 in
set_option maxHeartbeats 8000000 in
theorem do_write (HF : Fr A n vo g v6 v7 v8 fuse down steps k (.pointer (some ⟨KB, 0, none⟩)) v14 (.int .i64 (lastE M o))) (HS : St w wx g S M) (HL : LR w wx S v6 v7 v8 fuse down steps (lastM M o))
    (HB : wx.heap[KB]? = some (.cells #[.int .i64 o.k, .int .i64 o.at_, .slice bA o.b.length bc, .slice kA o.keep.length kc, .int .i64 o.tear] 36 (0, 0))) (hSB : ¬ S KB) (hwl : M.wait.length ≤ 50) (hst : 0 ≤ steps ∧ steps ≤ k + 1) (hfu : fuse ≤ 9223372036854775807) (h0 : o.k = 0) (hbC : Kd.C (Kd.int .u8) w bA o.b.length o.b) (hbl : o.b.length ≤ 600)
    (Q : Exit → Act → World → Prop) (hQ : ∀ A' w' S' v6' v7' v8' f' d' s' M' v14' v15', Fr A' n vo g v6' v7' v8' f' d' s' k (.pointer (some ⟨KB, 0, none⟩)) v14' v15' → St w w' g S' M' → LR w w' S' v6' v7' v8' f' d' s' M' → (M'.wait.length ≤ M.wait.length + 1 ∧ (0 ≤ s' ∧ s' ≤ k + 1) ∧ f' ≤ 9223372036854775807 ∧ M'.now.length = M.now.length) → Q .normal ⟨A', []⟩ w'): Code.wp Try.prog (unitC Try.f7) Q ⟨A, []⟩ wx := by
  have y0 : wx.cell? ⟨KB, 0, none⟩ = some (.int .i64 o.k) := (blk_cell HB 0).trans rfl
  have y1 : wx.cell? ⟨KB, 1, none⟩ = some (.int .i64 o.at_) := (blk_cell HB 1).trans rfl
  have y2 : wx.cell? ⟨KB, 2, none⟩ = some (.slice bA o.b.length bc) := (blk_cell HB 2).trans rfl
  have y3 : wx.cell? ⟨KB, 3, none⟩ = some (.slice kA o.keep.length kc) := (blk_cell HB 3).trans rfl
  have y4 : wx.cell? ⟨KB, 4, none⟩ = some (.int .i64 o.tear) := (blk_cell HB 4).trans rfl
  show Code.wp Try.prog (Code.seq _ _) Q ⟨A, []⟩ wx
  rw [HF.lit]
  have HS := Aside0.mk HS
  have HBB := Aside0.mk (And.intro HB hSB)
  have HQ := Aside0.mk hQ
  have HW := Aside0.mk (And.intro hwl (And.intro hst hfu))
  have hE : lastE M o = M.wrE o.at_ o.b.length := by unfold lastE; rw [if_pos h0]
  have hM : lastM M o = M.wr o.at_ o.b := by unfold lastM; rw [if_pos h0]
  rw [hM] at HL
  rw [hE, h0] at *
  have HL := Aside0.mk HL
  have HC := Aside0.mk (And.intro (Kd.C_below hbC HS.out.B) (And.intro hbl (fun k hk => (HS.out.lt k hk).2)))
  clear HF hQ HB hwl hst hfu hE hM hbC
  have HA := Aside0.mk (And.intro (fun (ok : Nat → Prop) (hok : ok wx.heap.size) => empty_row (Kd.int .u8) wx wx.heap.size 5 ok (Nat.le_refl _) hok) (And.intro (Kd.C_below HC.out.1 (below_alloc (Below.refl wx.heap.size wx) (.cells #[] 5))) (below_alloc (Below.refl wx.heap.size wx) (.cells #[] 5))))
  have y2a : (wx.alloc (.cells #[] 5)).cell? ⟨KB, 2, none⟩ = some (.slice bA o.b.length bc) := by
    have h := (heap_alloc_old wx (.cells #[] 5) (blk_lt HBB.out.1)).trans HBB.out.1
    exact (blk_cell h 2).trans rfl
  go_upto_region 41 with (at_builtin; refine Kd.R_append_rows (Kd.int .u8) (Rr := (Kd.int .u8).K (wx.alloc (.cells #[] 5))) (w0 := wx) wx.heap.size rfl (.tmp 158) (.tmp 160) 22 5 (.int .u8 0) 1 rfl Try.underlying22 infoU8 rfl (by decide) (by decide) _ [] o.b bA o.b.length bc (fun k => wx.heap.size ≤ k) (fun _ => False) rfl rfl (HA.out.1 _ (Nat.le_refl _)) HA.out.2.1 (fun _ _ h => h) (fun _ h => h.elim) (fun k hk => Nat.le_trans HA.out.2.2.size hk) HA.out.2.2 HA.out.2.2.size (by have := HC.out.2.1; show (0 + o.b.length) * 1 ≤ _; omega) ?_; intro v3 w3 hR hB _ _; have HR0 := Aside0.mk (show (Kd.int .u8).R 5 w3 wx.heap.size (fun k => wx.heap.size ≤ k) v3 o.b from by rw [List.nil_append] at hR; exact hR); have HB3 := Aside0.mk hB; clear hR hB)
  obtain ⟨A3, c3, e3, hc3, hC3⟩ := Kd.R_reads HR0.out
  subst e3
  have HC3 := Aside0.mk hC3
  have hKB3 := (HB3.out.block KB (blk_lt HBB.out.1)).trans HBB.out.1
  have z1 : w3.cell? ⟨KB, 1, none⟩ = some (.int .i64 o.at_) := (blk_cell hKB3 1).trans rfl
  have HS3 := Aside0.mk (HS.out.below HB3.out)
  clear hC3 hKB3 y0 y1 y2 y3 y4 HA
  go_wp2_with fail
  refine (st_write HS3.out o.at_ A3 c3 o.b (fun W' hk => by obtain ⟨A', c', e', _, h⟩ := Kd.R_reads (byt_keep HR0.out hk HC.out.2.2); injection e' with e' _ _; subst e'; exact h) hc3 (by have := HW.out; omega)).mono ?_
  rintro e w4 ⟨rfl, S4, hs, hS4, hk⟩
  have HS4 := Aside0.mk hs
  have HR := Aside0.mk (byt_keep HR0.out hk HC.out.2.2)
  have hown := Aside0.mk (show ∀ k, (Value.slice A3 o.b.length c3).ownBlock = some k → wx.heap.size ≤ k ∧ k < w3.heap.size from fun k hk => ⟨Kd.R_base HR0.out k hk, Kd.R_lt HR0.out k hk⟩)
  have HL4 := Aside0.mk ((HL.out.below HB3.out).step (S' := S) (Kept.refl w3 (fun _ => False)) (fun _ q => q.elim) (fun k q => .inl q))
  have HL5 := Aside0.mk (show LR w w4 (fun k => S4 k ∨ (Value.slice A3 o.b.length c3).ownBlock = some k) v6 v7 v8 fuse down steps (M.wr o.at_ o.b) from
    HL.out.step (W2 := w4) ((Kept.of_below HB3.out S).then_ hk (fun k hk => .inl hk)) (fun _ q => q) (fun k q => q.elim (fun q => (hS4 k q).imp id (fun q => Nat.le_trans HB3.out.size q)) (fun q => .inr (hown.out k q).1)))
  have hSo := Aside0.mk (show ∀ k, (Value.slice A3 o.b.length c3).ownBlock = some k → ¬ S4 k from fun k q hq => by
    have h1 := hown.out k q
    rcases hS4 k hq with h | h
    · have := HC.out.2.2 k h; omega
    · omega)
  have hwl := Aside0.mk (show (M.wr o.at_ o.b).wait.length ≤ M.wait.length + 1 from wr_wait)
  clear hs hS4 hk HL4 z1
  generalize M.wrE o.at_ o.b.length = E at *
  obtain ⟨nb, hnb⟩ : ∃ m, m = o.b.length := ⟨_, rfl⟩
  have hbl2 : nb ≤ 600 := by have := HC.out.2.1; omega
  have hv : (Value.slice A3 o.b.length c3) = .slice A3 nb c3 := by rw [hnb]
  have HNB := Aside0.mk hnb
  have hR2 := HR.out
  have hL2 := HL5.out
  have hSo2 := hSo.out
  rw [hv] at hR2 hL2 hSo2 ⊢
  have HR2 := Aside0.mk hR2
  have HL2 := Aside0.mk hL2
  have HSO := Aside0.mk hSo2
  have hown2 := hown.out
  rw [hv] at hown2
  have HOW := Aside0.mk (fun k q => Nat.le_trans HS.out.B.size (hown2 k q).1)
  clear hv hR2 hL2 hSo2 hSo hown hown2 HL5 HR HNB
  rw [← hnb] at hc3
  have HNN := Aside0.mk hnb.symm
  clear hnb
  go_wp2
  go_loopw [171] (fun i wr => ∃ j : Nat, j ≤ nb ∧ i = .int .i64 j ∧ Aside0 (Kept w4 wr (fun k => (Value.slice A3 nb c3).ownBlock = some k) ∧ ∃ l' : List Int, l'.length = nb ∧ (Kd.int .u8).R 5 wr wx.heap.size (fun k => wx.heap.size ≤ k) (.slice A3 nb c3) l')) (fun i _ => nb - (intOf i).toNat)
  case atStart => exact ⟨0, Nat.zero_le _, rfl, ⟨Kept.refl _ _, o.b, HNN.out, HR2.out⟩⟩
  case round =>
    obtain ⟨j, hj, rfl, hR⟩ := hrel
    by_cases hlt : j < nb
    · have HJ := Aside0.mk hlt
      have hbi : (j : Int) < (nb : Int) := by omega
      obtain ⟨g3, y, rfl, z0, f0, HN⟩ := xor_step hR.out hlt
      go_wp2
      go_roundw
      case rel => exact ⟨j + 1, HJ.out, by go_num, HN _⟩
      case measure =>
        rw [show (j : Int) + 1 = ((j + 1 : Nat) : Int) from rfl]
        exact (show nb - (j + 1) < nb - j from Nat.sub_lt_sub_left HJ.out (Nat.lt_succ_self j))
    · have hjn : j = nb := Nat.le_antisymm hj (Nat.le_of_not_lt hlt)
      subst hjn
      have HSF := Aside0.mk (show St w wr g S4 (M.wr o.at_ o.b) from ⟨HS4.out.I.step hR.out.1.size (fun k hs hlt => hR.out.1.block k hlt (fun q => HSO.out k q hs)), hR.out.1.below_of HS4.out.B (fun k q => HOW.out k q)⟩)
      have HLF := Aside0.mk ((HL2.out.step (S' := fun k => S4 k ∨ (Value.slice A3 j c3).ownBlock = some k) hR.out.1 (fun k q => .inr q) (fun k q => .inl q)).step (S' := S4) (Kept.refl wr (fun _ => False)) (fun _ q => q.elim) (fun k q => .inl (.inl q)))
      clear hlt hj hR
      go_wp2
      exact HQ.out _ _ _ _ _ _ _ _ _ _ _ _ ⟨rfl, rfl, rfl, rfl, rfl, rfl, rfl, rfl, rfl, rfl, rfl, rfl, rfl, rfl⟩ HSF.out HLF.out ⟨hwl.out, HW.out.2.1, HW.out.2.2, wr_now⟩
end
end DiskRuns
end Go.Proofs.Ytihmfccpgahmaaa.Dk
