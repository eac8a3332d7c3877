/- The law WalLies, walked: true, for whatever bytes. -/
import Derived.Test.YtihmfccpgahmaaaWalAny
import Derived.Test.YtihmfccpgahmaaaBits
namespace Go.Proofs.Ytihmfccpgahmaaa.Wal
open Go Go.RowKit
open Go.Proofs.YtihmfccpgahmaaaW.PrintWords hiding Kept Kept.refl
open Go.Proofs.YtihmfccpgahmaaaW.PrintMore Go.Proofs.YtihmfccpgahmaaaW.PrintLast Go.Proofs.Ytihmfccpgahmaaa.Dk Go.Proofs.Ytihmfccpgahmaaa.Q Go.Proofs.Ytihmfccpgahmaaa.Str Go.Proofs.Ytihmfccpgahmaaa.Leb
set_option linter.unusedVariables false
set_option linter.unusedSimpArgs false
def strs (es : List (Int × List Int)) : List ByteArray := es.map fun x => strOfNums x.2
theorem up_cell {w W : World} {p : Addr} {v : Value} (hb : Below w.heap.size w W) (h : w.cell? p = some v) : W.cell? p = some v := (hb.cell (World.block_lt_of_cell? _ _ h)).trans h
/-- A row of bytes that stands in a row. -/
theorem bytes_at {w : World} {A : Option Addr} {l : List (List Int)} (h : Kd.C (Kd.slice 5 (Kd.int .u8)) w A l.length l) (k : Nat) (hk : k < l.length) : ∃ ad bA bc, A = some ad ∧ w.cell? (ad.add k) = some (.slice bA l[k].length bc) ∧ l[k].length ≤ bc ∧ Kd.C (Kd.int .u8) w bA l[k].length l[k] := by
  obtain ⟨ad, c, hA, _, hK, hc⟩ := Kd.C_get h [] (k : Int) (by omega) (by omega)
  rw [Int.toNat_natCast] at hK hc
  have e : l.getD k [] = l[k] := by simp [List.getD_eq_getElem?_getD, List.getElem?_eq_getElem hk]
  rw [e] at hK
  obtain ⟨bA, bc, rfl, h1, h2⟩ := hK
  refine ⟨ad, bA, bc, hA, ?_, h1, h2⟩
  have h3 : w.cell? (ad.add (k * 1 + 0)) = some (.slice bA l[k].length bc) := hc 0 _ rfl
  rwa [Nat.mul_one, Nat.add_zero] at h3
theorem row_S {w W : World} {e base : Nat} {S : Nat → Prop} {v : Value} {l : List ByteArray} (h : Kd.string.R e w base (fun _ => True) v l) (hk : Kept w W S) (hS : ∀ k, S k → k < base) : Kd.string.R e W base (fun _ => True) v l :=
  Kd.R_mono (Kd.R_step (Kd.R_bound h) (fun k hq hlt => hk.block k hlt (fun hs => by have := hS k hs; have := hq.2.1; omega))) (fun _ hq => hq.1)
theorem Lg.argsW {w0 w W : World} {p g : Nat} {S : Nat → Prop} {L : LA} {M : DA} (h : Lg w0 w p g S L M) (hk : Kept w W (fun k => S k ∨ k = p)) : Below w0.heap.size w0 W :=
  kept_below hk h.D.B (fun k hq => hq.elim (fun q => (h.D.lt k q).1) (fun q => by rw [q]; exact h.P))
theorem append_full {L : LA} {M : DA} {l : List Int} (hl : l.length ≤ 16384) (hr : L.free < needN l.length) : L.append M l = ⟨0, 10, L, M⟩ := by
  unfold LA.append
  rw [if_neg (by omega), if_pos hr]
namespace WalLies
set_option maxRecDepth 100000 in
set_option maxHeartbeats 8000000 in
theorem law_n (A0 : Option Addr) (c0 : Nat) (ls : List (List Int)) (A1 : Option Addr) (c1 : Nat) (more : List Int) (w : World)
    (hcl : ls.length ≤ c0) (hCl : Kd.C (Kd.slice 5 (Kd.int .u8)) w A0 ls.length ls) (hyl : ∀ x ∈ ls, Byt x) (hcm : more.length ≤ c1) (hCm : Kd.C (Kd.int .u8) w A1 more.length more) (hym : Byt more) (sl : ls.length ≤ 12) (sm : more.length ≤ 1000) :
    Calls Try.prog 11 #[.slice A0 ls.length c0, .slice A1 more.length c1] w fun e w' => e = .returned (.bool true) ∧ Below w.heap.size w w' := by
  have HA := Aside0.mk (And.intro hCl hyl)
  have HC := Aside0.mk (And.intro hcm (And.intro hCm (And.intro hym sm)))
  have ta : decide (12 < ls.length) = false := decide_eq_false (by omega)
  have tb : decide (1000 < more.length) = false := decide_eq_false (by omega)
  have ta2 : decide ((12 : Int) < (ls.length : Int)) = false := decide_eq_false (by omega)
  have tb2 : decide ((1000 : Int) < (more.length : Int)) = false := decide_eq_false (by omega)
  have hla := hCl.2.1
  have hlb := hCm.2.1
  obtain ⟨hgn, _⟩ := new_gd 12 (by decide) (by decide)
  rw [show (12 : Int).toNat = 12 from rfl] at hgn
  have H0 := Aside0.mk (And.intro hgn (And.intro (new_DY (newN 12).toNat) (show (DA.new (newN 12).toNat).wait.length = 0 from rfl)))
  clear hgn hcl hCl hyl hcm hCm hym
  go_enter Try.func11, Try.ntmps11
  go_wp2_with fail
  refine (head_ok _).mono ?_
  rintro e w1 ⟨rfl, hb⟩
  have HB := Aside0.mk hb
  clear hb
  go_wp2_with fail
  refine (st_new (w0 := w) _ _ HB.out).mono ?_
  rintro e w2 ⟨g, S, rfl, hi, hb, hs⟩
  have HI := Aside0.mk (And.intro hi H0.out)
  clear hi HB hb hs H0
  generalize DA.new (newN 12).toNat = M0 at HI
  go_wp2
  go_loopw [30] (fun i wr => ∃ k : Nat, k ≤ ls.length ∧ i = .int .i64 k ∧ Aside0 (∃ S M, St w wr g S M ∧ Gd M 12 ∧ DY M ∧ M.wait.length ≤ k)) (fun i _ => ls.length - (intOf i).toNat)
  case atStart => exact ⟨0, Nat.zero_le _, rfl, ⟨_, _, HI.out.1, HI.out.2.1, HI.out.2.2.1, Nat.le_of_eq HI.out.2.2.2⟩⟩
  case round =>
    obtain ⟨k, hk, rfl, hR⟩ := hrel
    clear HI
    obtain ⟨T, M, hD, hG, hY, hW⟩ := hR.out
    have HD := Aside0.mk hD
    have HM := Aside0.mk (And.intro hG (And.intro hY hW))
    clear hR hD hG hY hW
    by_cases hlt : k < ls.length
    · obtain ⟨ad, bA, bc, hA1, hcell, hbc, hCb⟩ := bytes_at HA.out.1 k hlt
      obtain ⟨x, hx⟩ : ∃ x, x = ls[k] := ⟨_, rfl⟩
      rw [← hx] at hcell hbc hCb
      have x0 := up_cell HD.out.B hcell
      have HX := Aside0.mk (And.intro hbc (And.intro hCb (show Byt x by rw [hx]; exact HA.out.2 _ (List.getElem_mem _))))
      have hki : (k : Int) < (ls.length : Int) := by omega
      have hlx := hCb.2.1
      subst hA1
      clear hx hcell hbc hCb
      by_cases h5 : 512 < x.length
      · have b5 : decide (512 < x.length) = true := decide_eq_true h5
        have b6 : decide ((512 : Int) < (x.length : Int)) = true := decide_eq_true (by omega)
        clear h5
        go_wp2
        go_ret
        exact ⟨rfl, HD.out.B⟩
      · have b5 : decide (512 < x.length) = false := decide_eq_false h5
        have b6 : decide ((512 : Int) < (x.length : Int)) = false := decide_eq_false (by omega)
        have HS := Aside0.mk (show x.length ≤ 512 by omega)
        clear h5
        go_wp2_with fail
        refine (st_write HD.out (k : Int) bA bc x (fun W' hk => Kd.C_below HX.out.2.1 (HD.out.I.after hk HD.out.B HD.out.B.size)) HX.out.1 (by have := HM.out.2.2; omega)).mono ?_
        rintro e w5 ⟨he, T1, hi, _, _⟩
        subst he
        have HR := Aside0.mk (show ∃ S M, St w w5 g S M ∧ Gd M 12 ∧ DY M ∧ M.wait.length ≤ k + 1 from ⟨_, _, hi, HM.out.1.wr (by omega) (by omega) HS.out, HM.out.2.1.wr _ HX.out.2.2, by have := wr_wait M (k : Int) x; have := HM.out.2.2; omega⟩)
        clear hi x0
        go_wp2
        go_roundw
        case rel => exact ⟨k + 1, hlt, by go_num, HR⟩
        case measure => simp [intOf]; omega
    · have hkn : k = ls.length := Nat.le_antisymm hk (Nat.le_of_not_lt hlt)
      subst hkn
      clear hlt hk
      have hO := opn_any HM.out.1 HM.out.2.1 (by decide) (fr := 0) (n := 12) (by decide) (by decide) (by decide)
      have hON := Aside0.mk hO
      clear hO
      go_wp2_with fail
      refine (open_l HD.out HM.out.2.1 (by have := HM.out.2.2; omega) 0 12 (by decide) (by decide)).mono ?_
      have hwt := opn_wait (M := M) 0 12
      have hWT := Aside0.mk (show (opn M 0 12).M.wait.length ≤ 20 by have := HM.out.2.2; omega)
      clear hwt
      generalize opn M 0 12 = O at hON hWT
      rintro e w5 ⟨v, rfl, _, ⟨hN, rfl, hst⟩ | ⟨p, S', L, hL, rfl, hp, hl, _⟩⟩
      · have he3 : O.e = 3 := by
          rcases hON.out with h | ⟨L, lam, t, h, _⟩
          · exact h.2
          · rw [hN] at h; cases h
        have HBE := Aside0.mk hst.B
        clear hN hst hON
        rw [he3]
        go_wp2
        go_ret
        exact ⟨by simp, HBE.out⟩
      · have hai : ∃ lam t, O.e = 0 ∧ AI 12 L O.M lam t := by
          rcases hON.out with h | ⟨L', lam, t, h1, h2, h3⟩
          · rw [hL] at h; cases h.1
          · rw [hL] at h1
            injection h1 with h1
            subst h1
            exact ⟨lam, t, h2, h3⟩
        obtain ⟨lam, t, he0, hai⟩ := hai
        have HAI := Aside0.mk hai
        have HL := Aside0.mk hl
        have hgm := Aside0.mk (show (strs t).length ≤ 12 ∧ L.next ≤ 4611686018427388000 from by
          have h1 := Chn.le _ _ _ hai.t
          have h2 := hai.k.nr
          have h3 := hai.k.fn
          have h4 := hai.k.f0
          have h5 := hai.s1
          refine ⟨?_, by omega⟩
          show (t.map _).length ≤ 12
          rw [List.length_map]
          omega)
        have HSB := Aside0.mk (show ∀ k, S' k ∨ k = p → k < w5.heap.size from fun k hk => hk.elim (fun h => (hl.D.lt k h).2) (fun h => by rw [h]; exact hl.lt))
        rw [he0]
        clear hai he0 hL hp hl hON
        go_wp2_with fail
        refine (found_l HL.out (by rw [HAI.out.g.n]; exact HAI.out.k) HAI.out.Y).mono ?_
        rw [HAI.out.alls]
        rintro e w6 ⟨v1, v2, rfl, hr1, hr2, hb⟩
        have HG := Aside0.mk (show Kd.string.R 9 w6 w5.heap.size (fun _ => True) v1 (strs t) from hr1)
        have HL6 := Aside0.mk (HL.out.below hb)
        clear hr1 hr2 hb HL
        by_cases hroom : L.free < needN more.length
        · have hap := append_l HL6.out (by rw [HAI.out.g.n]; exact HAI.out.k) A1 c1 more (fun W' hk => Kd.C_below HC.out.2.1 (HL6.out.argsW hk)) HC.out.1 HC.out.2.2.1 (by have := hWT.out; omega) (by have := hgm.out.2; omega)
          rw [append_full (by have := HC.out.2.2.2; omega) hroom] at hap
          have HAP := Aside0.mk hap
          have HRM := Aside0.mk hroom
          clear hap hroom
          go_wp2_with fail
          refine HAP.out.mono ?_
          rintro e w7 ⟨rfl, S7, hl, _, _⟩
          have HL7 := Aside0.mk hl
          clear hl HAP HL6
          go_wp2_with fail
          refine (need_i (more.length : Int) (by have := HC.out.2.2.2; omega) _).mono ?_
          rw [need_N]
          rintro e w8 ⟨rfl, hb⟩
          have HL8 := Aside0.mk (HL7.out.below hb)
          clear hb HL7
          go_wp2_with fail
          refine (free_l HL8.out (by rw [HAI.out.g.n]; exact HAI.out.k)).mono ?_
          rintro e w9 ⟨rfl, kk, hq⟩
          have HBE := Aside0.mk (show Below w.heap.size w w9 by rw [hq]; exact (HL8.out.below (below_drewN _ _)).D.B)
          have hroom := HRM.out
          clear hq HL8
          generalize needN more.length = nm at hroom ⊢
          generalize L.free = fr at hroom ⊢
          go_wp2
          go_ret
          exact ⟨by simp, HBE.out⟩
        · obtain ⟨L', M', e, halls, hok, hY'⟩ := HAI.out.append HC.out.2.2.1 (by have := HC.out.2.2.2; omega) (Int.not_lt.1 hroom)
          have hap := append_l HL6.out (by rw [HAI.out.g.n]; exact HAI.out.k) A1 c1 more (fun W' hk => Kd.C_below HC.out.2.1 (HL6.out.argsW hk)) HC.out.1 HC.out.2.2.1 (by have := hWT.out; omega) (by have := hgm.out.2; omega)
          rw [e] at hap
          have HAP := Aside0.mk hap
          have HA2 := Aside0.mk (And.intro halls (And.intro hok hY'))
          clear hap hroom e halls hok hY'
          go_wp2_with fail
          refine HAP.out.mono ?_
          rintro e w7 ⟨rfl, S7, hl, _, hk⟩
          have HL7 := Aside0.mk (show Lg w w7 p g S7 L' M' from hl)
          have HG7 := Aside0.mk (row_S HG.out hk HSB.out)
          clear hl hk HAP HL6 HG HSB
          go_wp2_with fail
          refine (found_l HL7.out HA2.out.2.1 HA2.out.2.2).mono ?_
          rw [HA2.out.1]
          rintro e w8 ⟨v5, v6, rfl, hr1, hr2, hb⟩
          have hr3 : Kd.string.R 9 w8 w7.heap.size (fun _ => True) v5 (strs t ++ [strOfNums more]) := by rw [List.map_append] at hr1; exact hr1
          have hgl1 := hgm.out.1
          have HG8 := Kd.R_below HG7.out hb
          have HB8 := Aside0.mk ((HL7.out.below hb).D.B)
          clear hr1 hr2 hb HL7 HG7 HA2 HAI hgm
          generalize strs t = gl at hr3 HG8 hgl1
          obtain ⟨k5, q5, hv5, _⟩ := Kd.R_form hr3 (by rw [List.length_append]; exact Nat.succ_pos _)
          obtain ⟨kA, kc, hv1, _⟩ := Kd.R_reads HG8
          have hc5 := (Kd.R_celln (enc := Value.string) (h1 := fun _ => rfl) ByteArray.empty (hv5 ▸ hr3) (gl.length : Int) (Int.natCast_nonneg _) (by rw [List.length_append]; exact Int.ofNat_lt.2 (Nat.lt_succ_self _))).1
          rw [Int.toNat_natCast] at hc5
          have hrd : rdOf ByteArray.empty (gl ++ [strOfNums more]) (gl.length : Int) = strOfNums more := by
            unfold rdOf
            rw [Int.toNat_natCast, List.getD_eq_getElem?_getD, List.getElem?_append_right (Nat.le_refl _), Nat.sub_self]
            rfl
          rw [hrd] at hc5
          have hv5' := hv5
          rw [List.length_append, List.length_cons, List.length_nil, Nat.zero_add] at hv5'
          subst hv1
          have HW := Aside0.mk HG8
          have HG := Aside0.mk (hv5 ▸ hr3)
          subst hv5'
          have hgi : (gl.length : Int) ≤ 12 := by omega
          have cv : ∀ q, (convert 22 9 (.slice A1 more.length c1)).run Try.prog (w8.drewN q) = .ok (.string (strOfNums more)) (w8.drewN q) := fun q => cv_all HC.out.2.1 (below_step HB8.out (below_drewN w8 q)) c1
          clear hv5 hrd hr3 HG8 hgl1
          go_upto_region 21 with fail
          go_quiet (fail)
          have HBQ := Aside0.mk (below_step (Below.refl w8.heap.size w8) (below_drewN w8 nq))
          generalize w8.drewN nq = w9 at HBQ ⊢
          clear cv hc5
          go_wp2
          go_loopw [98] (fun i wr => ∃ j : Nat, j ≤ gl.length ∧ i = .int .i64 j ∧ Aside0 (Below w8.heap.size w8 wr)) (fun i _ => gl.length - (intOf i).toNat)
          case atStart => exact ⟨0, Nat.zero_le _, rfl, HBQ⟩
          case round =>
            obtain ⟨j, hj, rfl, hR⟩ := hrel
            by_cases hlt : j < gl.length
            · obtain ⟨k2, q2, hv2, _⟩ := Kd.R_form HW.out (Nat.lt_of_le_of_lt (Nat.zero_le _) hlt)
              injection hv2 with hv2
              subst hv2
              have r1 := (Kd.R_celln (enc := Value.string) (h1 := fun _ => rfl) ByteArray.empty (Kd.R_below HG.out hR.out) (j : Int) (by omega) (by rw [List.length_append]; show (j : Int) < ((gl.length + 1 : Nat) : Int); omega)).1
              have r2 := (Kd.R_celln (enc := Value.string) (h1 := fun _ => rfl) ByteArray.empty (Kd.R_below HW.out hR.out) (j : Int) (by omega) (by omega)).1
              have hrr : rdOf ByteArray.empty (gl ++ [strOfNums more]) (j : Int) = rdOf ByteArray.empty gl (j : Int) := by
                unfold rdOf
                rw [Int.toNat_natCast, List.getD_eq_getElem?_getD, List.getElem?_append_left hlt, List.getD_eq_getElem?_getD]
              rw [hrr] at r1
              rw [Int.toNat_natCast] at r1 r2
              clear hrr
              generalize rdOf ByteArray.empty gl (j : Int) = y at r1 r2
              have hji : (j : Int) < (gl.length : Int) := by omega
              go_upto_region 26 with fail
              go_quiet (fail)
              have HBQ2 := Aside0.mk (below_step hR.out (below_drewN wr nq))
              generalize wr.drewN nq = wq at HBQ2 ⊢
              clear r1 r2
              go_wp2
              go_roundw
              case rel => exact ⟨j + 1, hlt, by go_num, ⟨HBQ2.out⟩⟩
              case measure =>
                rw [show (j : Int) + 1 = ((j + 1 : Nat) : Int) from rfl]
                exact (show gl.length - (j + 1) < gl.length - j from Nat.sub_lt_sub_left hlt (Nat.lt_succ_self j))
            · have hjn : j = gl.length := Nat.le_antisymm hj (Nat.le_of_not_lt hlt)
              subst hjn
              have HBE := Aside0.mk (HB8.out.trans (hR.out.mono HB8.out.size))
              clear hlt hj hR
              go_wp2
              go_ret
              exact ⟨rfl, HBE.out⟩
set_option maxRecDepth 100000 in
set_option maxHeartbeats 4000000 in
theorem law_ok (A0 : Option Addr) (c0 : Nat) (ls : List (List Int)) (A1 : Option Addr) (c1 : Nat) (more : List Int) (w : World)
    (hcl : ls.length ≤ c0) (hCl : Kd.C (Kd.slice 5 (Kd.int .u8)) w A0 ls.length ls) (hwl : ∀ x ∈ ls, ∀ y ∈ x, (Lit.int .u8 y).wf = true) (hcm : more.length ≤ c1) (hCm : Kd.C (Kd.int .u8) w A1 more.length more) (hwm : ∀ x ∈ more, (Lit.int .u8 x).wf = true) :
    Calls Try.prog 11 #[.slice A0 ls.length c0, .slice A1 more.length c1] w fun e w' => e = .returned (.bool true) ∧ Below w.heap.size w w' := by
  by_cases hs : ls.length ≤ 12 ∧ more.length ≤ 1000
  · exact law_n A0 c0 ls A1 c1 more w hcl hCl (fun x hx => Byt.of_wf (hwl x hx)) hcm hCm (Byt.of_wf hwm) hs.1 hs.2
  · have hA := hCl.2.1
    have hB := hCm.2.1
    have hd : (decide (12 < ls.length) = true ∧ decide ((12 : Int) < (ls.length : Int)) = true) ∨ ((decide (12 < ls.length) = false ∧ decide ((12 : Int) < (ls.length : Int)) = false) ∧ decide (1000 < more.length) = true ∧ decide ((1000 : Int) < (more.length : Int)) = true) := by
      rcases Nat.lt_or_ge 12 ls.length with h | h
      · exact .inl ⟨decide_eq_true h, decide_eq_true (by omega)⟩
      · have h2 : 1000 < more.length := by omega
        exact .inr ⟨⟨decide_eq_false (by omega), decide_eq_false (by omega)⟩, decide_eq_true h2, decide_eq_true (by omega)⟩
    clear hs hCl hCm hwl hwm hcl hcm
    rcases hd with ⟨t1, u1⟩ | ⟨⟨t1, u1⟩, t2, u2⟩
    all_goals
      go_enter Try.func11, Try.ntmps11
      go_wp2_with fail
      refine (head_ok _).mono ?_
      rintro e w0 ⟨rfl, hb⟩
      have HB := Aside0.mk hb
      clear hb
      go_wp2
      go_ret
      exact ⟨rfl, HB.out⟩
end WalLies
end Go.Proofs.Ytihmfccpgahmaaa.Wal
