/- The law DiskRuns: Read, walked. No conditions beyond those that are named. -/
import Derived.Test.YtihmfccpgahmaaaDrK
namespace Go.Proofs.Ytihmfccpgahmaaa.Dk
open Go Go.RowKit Go.Proofs.YtihmfccpgahmaaaW.PrintWords Go.Proofs.YtihmfccpgahmaaaW.PrintMore Go.Proofs.YtihmfccpgahmaaaW.PrintLast Go.Proofs.Ytihmfccpgahmaaa.Str
set_option linter.unusedVariables false
set_option linter.unusedSimpArgs false
namespace DiskRuns
section
variable {w W wx : World} {S S' : Nat → Prop} {n k g KB : Nat} {vo v6 v7 v8 v14 v15 : Value} {fuse : Int} {down : Bool} {steps : Int} {M : DA} {o : OpV} {A : Array Value} {bA kA : Option Addr} {bc kc : Nat} {inn : Bool}
theorem rdE_zero {i : Int} (h : M.rdE i = 0) : ∃ a : Nat, i = a ∧ a < M.now.length := by
  unfold DA.rdE at h
  by_cases ha : M.ask i = 0
  · unfold DA.ask at ha
    by_cases hr : i < 0 ∨ (M.now.length : Int) ≤ i
    · rw [if_pos hr] at ha; omega
    · exact ⟨i.toNat, by omega, by omega⟩
  · rw [if_neg ha] at h; exact absurd h ha
set_option maxRecDepth 100000 in
set_option maxHeartbeats 8000000 in
theorem do_read (HF : Fr A n vo g v6 v7 v8 fuse down steps k (.pointer (some ⟨KB, 0, none⟩)) v14 (.int .i64 (lastE M o))) (HS : St w wx g S M) (HL : LR w wx S v6 v7 v8 fuse down steps (lastM M o))
    (HB : wx.heap[KB]? = some (.cells #[.int .i64 o.k, .int .i64 o.at_, .slice bA o.b.length bc, .slice kA o.keep.length kc, .int .i64 o.tear] 36 (0, 0))) (hSB : ¬ S KB) (hwl : M.wait.length ≤ 50) (hst : 0 ≤ steps ∧ steps ≤ k + 1) (hfu : fuse ≤ 9223372036854775807) (h1 : o.k = 1)
    (Q : Exit → Act → World → Prop) (hQ : ∀ A' w' S' v6' v7' v8' f' d' s' M' v14' v15', Fr A' n vo g v6' v7' v8' f' d' s' k (.pointer (some ⟨KB, 0, none⟩)) v14' v15' → St w w' g S' M' → LR w w' S' v6' v7' v8' f' d' s' M' → (M'.wait.length ≤ M.wait.length + 1 ∧ (0 ≤ s' ∧ s' ≤ k + 1) ∧ f' ≤ 9223372036854775807 ∧ M'.now.length = M.now.length) → Q .normal ⟨A', []⟩ w'): Code.wp Try.prog (unitC Try.f7) Q ⟨A, []⟩ wx := by
  have y0 : wx.cell? ⟨KB, 0, none⟩ = some (.int .i64 o.k) := (blk_cell HB 0).trans rfl
  have y1 : wx.cell? ⟨KB, 1, none⟩ = some (.int .i64 o.at_) := (blk_cell HB 1).trans rfl
  have y2 : wx.cell? ⟨KB, 2, none⟩ = some (.slice bA o.b.length bc) := (blk_cell HB 2).trans rfl
  have y3 : wx.cell? ⟨KB, 3, none⟩ = some (.slice kA o.keep.length kc) := (blk_cell HB 3).trans rfl
  have y4 : wx.cell? ⟨KB, 4, none⟩ = some (.int .i64 o.tear) := (blk_cell HB 4).trans rfl
  show Code.wp Try.prog (Code.seq _ _) Q ⟨A, []⟩ wx
  rw [HF.lit]
  have HS := Aside0.mk HS
  have HBB := Aside0.mk (And.intro HB hSB)
  have HQ := Aside0.mk hQ
  have HW := Aside0.mk (And.intro hwl (And.intro hst hfu))
  have hE : lastE M o = M.rdE o.at_ := by unfold lastE; rw [if_neg (by omega), if_pos h1]
  have hM : lastM M o = M := by unfold lastM; rw [if_neg (by omega), if_neg (by omega)]
  rw [hM] at HL
  rw [hE, h1] at *
  have HL := Aside0.mk HL
  have HSl := Aside0.mk (fun k hk => (HS.out.lt k hk).2)
  clear HF hQ HB hwl hst hfu hE hM
  go_wp2_with fail
  refine (st_read HS.out o.at_).mono ?_
  rintro e w2 ⟨s, rfl, hsb, hso, hb⟩
  have HS2 := Aside0.mk (HS.out.below hb)
  have HL2 := Aside0.mk (HL.out.below hb)
  have hKB := (hb.block KB (blk_lt HBB.out.1)).trans HBB.out.1
  have z1 : w2.cell? ⟨KB, 1, none⟩ = some (.int .i64 o.at_) := (blk_cell hKB 1).trans rfl
  have HO := Aside0.mk hso
  have HB2 := Aside0.mk hb
  clear y0 y1 y2 y3 y4 hKB hso hb
  by_cases hE : M.rdE o.at_ = 0
  · obtain ⟨a, ha, han⟩ := rdE_zero hE
    have hrb : M.rdB o.at_ = wholeF (rdOf [] M.now o.at_) := by unfold DA.rdB; rw [if_pos hE]
    obtain ⟨l, hl⟩ : ∃ l, l = M.now[a] := ⟨_, rfl⟩
    have hrd : rdOf [] M.now o.at_ = l := by
      unfold rdOf
      rw [ha, Int.toNat_natCast, List.getD_eq_getElem?_getD, List.getElem?_eq_getElem han, hl]
      rfl
    have hl5 : l.length ≤ 512 := HS.out.I.fit.1 l (by rw [hl]; exact List.getElem_mem _)
    rw [hrb, hrd] at hsb
    rw [hE]
    have hlt : a < (NS M.now M.torn).length := by rw [HL2.out.nlen]; exact han
    have hat : a < M.torn.length := by rw [HL2.out.t1]; exact han
    obtain ⟨g6, c6, hv6, _, hcell⟩ := HL2.out.n.cell a hlt
    have x0 : w2.cell? ⟨g6, a * 2, none⟩ = some (.string (strOfNums l)) := hcell 0 _ (by rw [NS_get a hlt han hat, hl]; rfl)
    obtain ⟨n6, hn6⟩ : ∃ m, m = (NS M.now M.torn).length := ⟨_, rfl⟩
    rw [← hn6] at hv6 hlt
    have hai : (a : Int) < (n6 : Int) := by omega
    rw [ha] at z1
    have hlen : s.b.length = 512 := by rw [hsb]; exact whole_len hl5
    have HSB := Aside0.mk hsb
    obtain ⟨kk, cc, hsv, _⟩ := Kd.R_form HO.out (by rw [hlen]; decide)
    have hsa : s.a = some ⟨kk, 0, none⟩ := by
      have h : Value.slice s.a s.b.length s.c = _ := hsv
      injection h
    have hsc : 512 ≤ s.c := by
      obtain ⟨A', c', e', h', _⟩ := Kd.R_reads HO.out
      have h : Value.slice s.a s.b.length s.c = _ := e'
      injection h with _ _ h3
      omega
    have HR := Aside0.mk (show (Kd.int .u8).R 5 w2 wx.heap.size (fun k => wx.heap.size ≤ k) (.slice (some ⟨kk, 0, none⟩) 512 s.c) s.b from by
      have h : (Kd.int .u8).R 5 w2 wx.heap.size (fun _ => True) (.slice s.a s.b.length s.c) s.b := HO.out
      rw [hsa, hlen] at h
      exact Kd.R_mono (Kd.R_bound h) (fun k hk => hk.2.1))
    have hsv2 : s.v = .slice (some ⟨kk, 0, none⟩) 512 s.c := by unfold Sec.v; rw [hsa, hlen]
    rw [hsv2]
    have hcv : (convert 22 9 (.slice (some ⟨kk, 0, none⟩) l.length s.c)).run Try.prog w2 = .ok (.string (strOfNums l)) w2 := by
      obtain ⟨A', c', e', _, hC⟩ := Kd.R_reads HR.out
      injection e' with e' _ _
      subst e'
      have h := cv_take hC (Below.refl w2.heap.size w2) s.c (j := l.length) (by rw [hlen]; exact hl5)
      rw [hsb, whole_take] at h
      exact h
    have hsz : (strOfNums l).size = l.length := size_str l
    have hcz := Aside0.mk (show ∀ i, l.length ≤ i → i < 512 → w2.cell? ⟨kk, i, none⟩ = some (.int .u8 0) from fun i h0 h1 => by
      have h := (Kd.R_celln (enc := Value.int .u8) (h1 := fun _ => rfl) 0 HR.out (i : Int) (by omega) (by omega)).1
      rw [Int.toNat_natCast, hsb, whole_zero l h0 h1] at h
      exact h)
    obtain ⟨ls, hls⟩ : ∃ m, m = l.length := ⟨_, rfl⟩
    rw [← hls] at hcv hsz hcz hl5
    obtain ⟨sl, hsl⟩ : ∃ x, x = strOfNums l := ⟨_, rfl⟩
    rw [← hsl] at hcv hsz x0
    have HE0 := Aside0.mk (show M.rdE o.at_ = 0 from hE)
    subst hv6
    clear hE han hrb hrd hl hlt hat hcell hlen hsv hsa hsv2 hls hsl HO hsb ha hn6
    have hls2 : (ls : Int) ≤ 512 := by omega
    go_upto_region 56 with fail
    clear hcv x0 z1 hai
    go_wp2_with fail
    go_loopw [21] (fun i wr => ∃ j : Nat, ls ≤ j ∧ j ≤ 512 ∧ i = .int .i64 j ∧ Aside0 (Below w2.heap.size w2 wr)) (fun i _ => 512 - (intOf i).toNat)
    case atStart => exact ⟨ls, Nat.le_refl _, hl5, by rw [← hsz], ⟨Below.refl _ _⟩⟩
    case round =>
      obtain ⟨j, hj0, hj, rfl, hR⟩ := hrel
      by_cases hlt : j < 512
      · have HJ := Aside0.mk (And.intro hj0 hlt)
        have hji : (j : Int) < 512 := by omega
        have c0 : wr.cell? ⟨kk, j, none⟩ = some (.int .u8 0) := (hR.out.cell (World.block_lt_of_cell? _ _ (hcz.out j hj0 hlt))).trans (hcz.out j hj0 hlt)
        go_wp2
        go_roundw
        case rel => exact ⟨j + 1, Nat.le_succ_of_le HJ.out.1, HJ.out.2, by go_num, hR⟩
        case measure =>
          rw [show (j : Int) + 1 = ((j + 1 : Nat) : Int) from rfl]
          exact (show 512 - (j + 1) < 512 - j from Nat.sub_lt_sub_left HJ.out.2 (Nat.lt_succ_self j))
      · have hj5 : j = 512 := by omega
        subst hj5
        have HS3 := Aside0.mk (HS2.out.below hR.out)
        have HR3 := Aside0.mk (Kd.R_below HR.out hR.out)
        have hbx := below_step HB2.out hR.out
        have hown : ∀ k, (Value.slice (some ⟨kk, 0, none⟩) 512 s.c).ownBlock = some k → wx.heap.size ≤ k := fun k hk => Kd.R_base HR3.out k hk
        have HSO := Aside0.mk (show ∀ k, (Value.slice (some ⟨kk, 0, none⟩) 512 s.c).ownBlock = some k → ¬ S k from fun k hk hq => by have h1 := hown k hk; have h2 := HSl.out k hq; omega)
        have HOW := Aside0.mk (show ∀ k, (Value.slice (some ⟨kk, 0, none⟩) 512 s.c).ownBlock = some k → w.heap.size ≤ k from fun k hk => Nat.le_trans HS.out.B.size (hown k hk))
        have HL3 := Aside0.mk (show LR w wr (fun k => S k ∨ (Value.slice (some ⟨kk, 0, none⟩) 512 s.c).ownBlock = some k) (Value.slice (some ⟨g6, 0, none⟩) n6 c6) v7 v8 fuse down steps M from
          HL.out.step (Kept.of_below hbx (fun _ => False)) (fun _ q => q.elim) (fun k q => q.imp id (hown k)))
        have hl512 : s.b.length = 512 := by obtain ⟨_, _, e', _⟩ := Kd.R_reads HR3.out; injection e' with _ e' _; exact e'.symm
        have HL5 := Aside0.mk hl512
        obtain ⟨wb, hwb⟩ : ∃ x, x = wr := ⟨_, rfl⟩
        rw [← hwb] at HS3 HR3 HL3 ⊢
        clear hlt hj hj0 hR hbx hown hwb hl512
        go_wp2
        go_loopw [235] (fun i wr => ∃ j : Nat, j ≤ 512 ∧ i = .int .i64 j ∧ Aside0 (Kept wb wr (fun k => (Value.slice (some ⟨kk, 0, none⟩) 512 s.c).ownBlock = some k) ∧ ∃ l' : List Int, l'.length = 512 ∧ (Kd.int .u8).R 5 wr wx.heap.size (fun k => wx.heap.size ≤ k) (.slice (some ⟨kk, 0, none⟩) 512 s.c) l')) (fun i _ => 512 - (intOf i).toNat)
        case atStart => exact ⟨0, Nat.zero_le _, rfl, ⟨Kept.refl _ _, _, HL5.out, HR3.out⟩⟩
        case round =>
          obtain ⟨j, hj, rfl, hR⟩ := hrel
          by_cases hlt : j < 512
          · have HJ := Aside0.mk hlt
            have hbi : (j : Int) < 512 := by omega
            obtain ⟨g3, y, hg3, z0, f0, HN⟩ := xor_step hR.out hlt
            injection hg3 with hg3
            injection hg3 with hg3 _ _
            subst hg3
            go_wp2
            go_roundw
            case rel => exact ⟨j + 1, HJ.out, by go_num, HN _⟩
            case measure =>
              rw [show (j : Int) + 1 = ((j + 1 : Nat) : Int) from rfl]
              exact (show 512 - (j + 1) < 512 - j from Nat.sub_lt_sub_left HJ.out (Nat.lt_succ_self j))
          · have hjn : j = 512 := Nat.le_antisymm hj (Nat.le_of_not_lt hlt)
            subst hjn
            have HSF := Aside0.mk (show St w wr g S M from ⟨HS3.out.I.step hR.out.1.size (fun k hs hlt => hR.out.1.block k hlt (fun q => HSO.out k q hs)), hR.out.1.below_of HS3.out.B (fun k q => HOW.out k q)⟩)
            have HLF := Aside0.mk ((HL3.out.step (S' := fun k => S k ∨ (Value.slice (some ⟨kk, 0, none⟩) 512 s.c).ownBlock = some k) hR.out.1 (fun k q => .inr q) (fun k q => .inl q)).step (S' := S) (Kept.refl wr (fun _ => False)) (fun _ q => q.elim) (fun k q => .inl (.inl q)))
            clear hlt hj hR
            go_wp2
            exact HQ.out _ _ _ _ _ _ _ _ _ _ _ _ ⟨rfl, rfl, rfl, rfl, rfl, rfl, rfl, rfl, rfl, rfl, rfl, rfl, rfl, rfl⟩ HSF.out HLF.out ⟨Nat.le_succ _, HW.out.2.1, HW.out.2.2, rfl⟩
  · have hrb : s.b = [] := by rw [hsb]; unfold DA.rdB; rw [if_neg hE]
    have hv : s.v = .slice s.a 0 s.c := by unfold Sec.v; rw [hrb]; rfl
    have e0 : (M.rdE o.at_ == 0) = false := beq_eq_false_iff_ne.2 hE
    have e1 : (M.rdE o.at_ != 0) = true := by simp [hE]
    rw [hv]
    generalize M.rdE o.at_ = E at *
    clear hE hsb hrb hv
    go_wp2
    exact HQ.out _ _ _ _ _ _ _ _ _ _ _ _ ⟨rfl, rfl, rfl, rfl, rfl, rfl, rfl, rfl, rfl, rfl, rfl, rfl, rfl, rfl⟩ HS2.out HL2.out ⟨Nat.le_succ _, HW.out.2.1, HW.out.2.2, rfl⟩
end
end DiskRuns
end Go.Proofs.Ytihmfccpgahmaaa.Dk
