/- The law WalSectors: what stands on the sectors, byte by byte. Plain Lean. No conditions beyond those that are named. -/
import Derived.Test.YtihmfccpgahmaaaWalCr
namespace Go.Proofs.Ytihmfccpgahmaaa.Wal
open Go Go.RowKit
open Go.Proofs.YtihmfccpgahmaaaW.PrintWords hiding Kept Kept.refl
open Go.Proofs.YtihmfccpgahmaaaW.PrintMore Go.Proofs.YtihmfccpgahmaaaW.PrintLast Go.Proofs.Ytihmfccpgahmaaa.Dk Go.Proofs.Ytihmfccpgahmaaa.Q Go.Proofs.Ytihmfccpgahmaaa.Str Go.Proofs.Ytihmfccpgahmaaa.Leb
set_option linter.unusedVariables false
set_option linter.unusedSimpArgs false
/-- An entry's sectors, byte by byte. -/
def rawL (L : LA) (M : DA) : Nat → Int → List Int → Prop
  | 0, _, _ => False
  | k + 1, n, r => (M.rdE (L.pl n) = 0 ∧ M.rdB (L.pl n) = wholeF (secB n L.life (decide (r.length ≤ 480)) (r.take 480))) ∧ (480 < r.length → rawL L M k (n + 1) (r.drop 480))
theorem rawL_frame {L L' : LA} {M M' : DA} (hl : L'.life = L.life) (hp : ∀ m, L'.pl m = L.pl m) : ∀ (k : Nat) (n : Int) (r : List Int), (∀ m, n ≤ m → m < n + needN r.length → M'.rdE (L.pl m) = M.rdE (L.pl m) ∧ M'.rdB (L.pl m) = M.rdB (L.pl m)) → rawL L M k n r → rawL L' M' k n r
  | 0, _, _, _, h => h
  | k + 1, n, r, hf, h => by
    have hpn := needN_pos r.length
    have h0 := hf n (Int.le_refl _) (by omega)
    refine ⟨by rw [hl, hp, h0.1, h0.2]; exact h.1, fun hl2 => rawL_frame hl hp k (n + 1) (r.drop 480) (fun m a b => hf m (by omega) ?_) (h.2 hl2)⟩
    rw [List.length_drop] at b
    have := needN_more hl2
    omega
theorem app_raw {N : Nat} : ∀ (k : Nat) (r : List Int) (L : LA) (M : DA), Gd M N → Geo L N → 0 ≤ L.next → L.next + needN r.length ≤ 9223372036854775807 → needN r.length ≤ k → (needN r.length : Int) ≤ L.ring → rawL L (L.app M k r).M k L.next r
  | 0, r, L, M, hM, hg, h0, h1, h2, h3 => by have := needN_pos r.length; omega
  | k + 1, r, L, M, hM, hg, h0, h1, h2, h3 => by
    have hp := needN_pos r.length
    obtain ⟨p0, p1, _⟩ := hg.pl L.next
    have hl0 := hg.l0
    have hl1 := hg.l1
    have hlen : (secB L.next L.life (decide (r.length ≤ 480)) (r.take 480)).length ≤ 512 := sec_len (by omega) (by omega) (by rw [List.length_take]; omega)
    have hwe := hM.wrE p0 p1 (n := (secB L.next L.life (decide (r.length ≤ 480)) (r.take 480)).length) hlen
    have hg1 := hM.wr p0 p1 hlen
    have hs := hM.rd_same p0 p1 hlen
    rw [app_succ, if_pos hwe]
    by_cases hl : r.length ≤ 480
    · rw [if_pos hl]
      exact ⟨hs, fun h => by omega⟩
    · rw [if_neg hl]
      have hn := needN_more (show 480 < r.length by omega)
      have hd : (r.drop 480).length = r.length - 480 := List.length_drop
      have hpd := needN_pos (r.drop 480).length
      have hgA : Geo L.app1 N := ⟨hg.f0, hg.r0, hg.fn, hg.l0, hg.l1⟩
      have ih := app_raw k (r.drop 480) L.app1 (M.wr (L.pl L.next) (secB L.next L.life (decide (r.length ≤ 480)) (r.take 480))) hg1 hgA (by show 0 ≤ L.next + 1; omega) (by show L.next + 1 + _ ≤ _; rw [hd]; omega) (by rw [hd]; omega) (by show _ ≤ L.ring; rw [hd]; omega)
      have ag := app_good k (r.drop 480) L.app1 (M.wr (L.pl L.next) (secB L.next L.life (decide (r.length ≤ 480)) (r.take 480))) hg1 hgA (by show 0 ≤ L.next + 1; omega) (by show L.next + 1 + _ ≤ _; rw [hd]; omega) (by rw [hd]; omega) (by show _ ≤ L.ring; rw [hd]; omega)
      have ho := ag.o _ p0 p1 (fun m x y => by
        have x2 : L.next + 1 ≤ m := x
        have y2 : m < L.next + 1 + needN (r.drop 480).length := y
        rw [hd] at y2
        show L.pl m ≠ L.pl L.next
        exact pl_ne hg.r0 (by omega) (by omega) (by omega))
      exact ⟨⟨ho.1.trans hs.1, ho.2.trans hs.2⟩, fun _ => rawL_frame (L := L.app1) (L' := L) rfl (fun _ => rfl) k _ _ (fun _ _ _ => ⟨rfl, rfl⟩) ih⟩
/-- The log that Open makes on a disk of twenty sectors. -/
def sL0 : LA := ⟨0, 18, 1, 1, 0, 1, 0, 0⟩
theorem sec_all {a b : List Int} (ha : Byt a) (hb : Byt b) (la : a.length ≤ 2000) (lb : b.length ≤ 2000) :
    ∃ M0 M1 M2 L1 L2, opn (DA.new (newN 20).toNat) 0 20 = ⟨some sL0, 0, M0⟩ ∧ sL0.append M0 a = ⟨0, 0, L1, M1⟩ ∧ L1.append M1 b = ⟨needN a.length, 0, L2, M2⟩ ∧ (sL0.Ok M0.now.length ∧ DY M0 ∧ M0.wait.length ≤ 100) ∧ (L1.Ok M1.now.length ∧ DY M1 ∧ M1.wait.length ≤ 100 ∧ L1.next ≤ 100) ∧
      rawL sL0 M2 (needN a.length) 0 a ∧ rawL sL0 M2 (needN b.length) (needN a.length) b ∧ M2.rdE 1 = 0 ∧ M2.rdB 1 = wholeF sL0.mb := by
  obtain ⟨hg, hz⟩ := new_gd 20 (by decide) (by decide)
  rw [show (20 : Int).toNat = 20 from rfl] at hg
  have hY0 := opn_DY (M := DA.new (newN 20).toNat) (new_DY _) 0 20
  have hw0 := opn_wait (M := DA.new (newN 20).toNat) 0 20
  have hwn : (DA.new (newN 20).toNat).wait.length = 0 := rfl
  have hO := opn_fresh hg (by decide) (fr := 0) (n := 20) (by decide) (by decide) (by decide) (fun j a b => hz j a (by omega))
  have hk0 := opn_ok (M := DA.new (newN 20).toNat) (fr := 0) (n := 20) (new_DY _) (by rw [hg.n]; decide) (L := sL0) (by rw [hO]; rfl)
  generalize DA.new (newN 20).toNat = M at hg hz hY0 hw0 hwn hO hk0 ⊢
  rw [hO] at hY0 hw0 hk0
  have hN : sL0.Nm := ⟨⟨by decide, by decide⟩, ⟨by decide, by decide⟩, ⟨by decide, by decide⟩, ⟨by decide, by decide⟩, ⟨by decide, by decide⟩⟩
  have hl := mb_len hN
  have hgw := hg.wr (i := 1) (by decide) (by decide) (l := sL0.mb) (by omega)
  have hs := hg.rd_same (i := 1) (by decide) (by decide) (l := sL0.mb) (by omega)
  have hsy := hgw.sy_rd (j := 1) (by decide) (by decide)
  obtain ⟨M0, hM0⟩ : ∃ M0, M0 = (M.wr (0 + 1) (⟨0, 20 - 2, 1, 1, 0, 1, 0, 0⟩ : LA).mb).sy := ⟨_, rfl⟩
  have hM0' : M0 = (M.wr 1 sL0.mb).sy := hM0
  rw [← hM0] at hO hY0 hw0 hk0
  rw [← hM0'] at hsy
  have g0 : Gd M0 20 := by rw [hM0']; exact hgw.sy
  have r1 : M0.rdE 1 = 0 ∧ M0.rdB 1 = wholeF sL0.mb := ⟨hsy.1.trans hs.1, hsy.2.trans hs.2⟩
  have hG : Geo sL0 20 := ⟨by decide, by decide, by decide, by decide, by decide⟩
  have na : needN a.length ≤ 5 := by unfold needN; omega
  have nb : needN b.length ≤ 5 := by unfold needN; omega
  have na0 := needN_pos a.length
  have z0 : sL0.next = 0 := rfl
  have z1 : sL0.ring = 18 := rfl
  have z2 : sL0.start = 0 := rfl
  obtain ⟨M1, e1, A1⟩ := append_good (l := a) g0 hG (by decide) (by omega) (by unfold LA.free; omega) (by decide) (by omega)
  have hp1 := append_ok' sL0 M0 ha
  have hk1 := append_Ok (L := sL0) (M := M0) hk0 ha (by decide)
  have eq1 : M1 = (sL0.app M0 (needN a.length) a).M := by
    have e := e1
    unfold LA.append LA.free at e
    rw [if_neg (by omega), if_neg (by omega)] at e
    exact ((AppR.mk.injEq ..).mp e).2.2.2.symm
  have raw1 := app_raw (needN a.length) a sL0 M0 g0 hG (by decide) (by omega) (Nat.le_refl _) (by omega)
  rw [← eq1] at raw1
  rw [e1] at hp1 hk1
  have hY1 : DY M1 := hp1.1.y hY0
  have hw1 : M1.wait.length ≤ 60 := by have h1 : M1.wait.length ≤ M0.wait.length + 40 := hp1.1.w; have h2 : M0.wait.length ≤ M.wait.length + 1 := hw0; omega
  obtain ⟨L1, hL1⟩ : ∃ L1 : LA, L1 = { sL0 with next := sL0.next + needN a.length } := ⟨_, rfl⟩
  rw [← hL1] at e1 hk1
  have f1 : L1.next = needN a.length := by rw [hL1]; show 0 + _ = _; omega
  have f2 : L1.ring = 18 := by rw [hL1]; rfl
  have f3 : L1.start = 0 := by rw [hL1]; rfl
  have f4 : L1.life = 1 := by rw [hL1]; rfl
  have f5 : L1.fr = 0 := by rw [hL1]; rfl
  have hpl : ∀ m, L1.pl m = sL0.pl m := fun m => by rw [hL1]; rfl
  have g1 : Gd M1 20 := A1.g
  have hG1 : Geo L1 20 := ⟨by omega, by omega, by omega, by omega, by omega⟩
  obtain ⟨M2, e2, A2⟩ := append_good (l := b) g1 hG1 (by omega) (by omega) (by unfold LA.free; omega) (by omega) (by omega)
  have eq2 : M2 = (L1.app M1 (needN b.length) b).M := by
    have e := e2
    unfold LA.append LA.free at e
    rw [if_neg (by omega), if_neg (by omega)] at e
    exact ((AppR.mk.injEq ..).mp e).2.2.2.symm
  have raw2 := app_raw (needN b.length) b L1 M1 g1 hG1 (by omega) (by omega) (Nat.le_refl _) (by omega)
  rw [← eq2, f1] at raw2
  rw [f1] at e2
  refine ⟨M0, M1, M2, L1, _, hO, e1, e2, ⟨hk0, hY0, by have h2 : M0.wait.length ≤ M.wait.length + 1 := hw0; omega⟩, ⟨hk1, hY1, by omega, by omega⟩, ?_, ?_, ?_⟩
  · refine rawL_frame (L := sL0) rfl (fun _ => rfl) _ _ _ (fun m m0 m1 => ?_) raw1
    obtain ⟨p0, p1, _⟩ := hG.pl m
    exact A2.o _ p0 p1 (fun n n0 n1 => by rw [hpl]; exact pl_ne (by decide) (by omega) (by omega) (by omega))
  · exact rawL_frame (L := L1) (L' := sL0) f4.symm (fun m => (hpl m).symm) _ _ _ (fun _ _ _ => ⟨rfl, rfl⟩) raw2
  · have q1 := A1.o 1 (by decide) (by decide) (fun m _ _ h => by have := (hG.pl m).2.2; have z : sL0.fr = 0 := rfl; omega)
    have q2 := A2.o 1 (by decide) (by decide) (fun m _ _ h => by have := (hG1.pl m).2.2; omega)
    exact ⟨q2.1.trans (q1.1.trans r1.1), q2.2.trans (q1.2.trans r1.2)⟩
theorem sec_pl {n : Int} (h0 : 0 ≤ n) (h1 : n < 18) : sL0.pl n = 2 + n := by
  unfold LA.pl
  show 0 + 2 + n % 18 = 2 + n
  rw [Int.emod_eq_of_lt h0 h1]
  omega
theorem sec_mb : (wholeF sL0.mb).take 9 = [4, 100, 111, 99, 107, 1, 1, 0, 1] := by
  have e : sL0.mb = [4, 100, 111, 99, 107, 1, 1, 0, 1] := by
    unfold LA.mb sL0 dockB
    show ((([4, 100, 111, 99, 107] ++ leb 1) ++ leb 1) ++ leb 0) ++ leb 1 = _
    rw [leb_lt (by decide), leb_lt (by decide)]
    rfl
  unfold wholeF
  rw [e]
  rfl
end Go.Proofs.Ytihmfccpgahmaaa.Wal
