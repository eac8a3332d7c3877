/- The law WalRounds, walked: true, for whatever numbers. -/
import Derived.Test.YtihmfccpgahmaaaWalRoundP
import Derived.Test.YtihmfccpgahmaaaBits
import Derived.Test.YtihmfccpgahmaaaQ4
namespace Go.Proofs.Ytihmfccpgahmaaa.Wal
open Go Go.RowKit
open Go.Proofs.YtihmfccpgahmaaaW.PrintWords hiding Kept Kept.refl
open Go.Proofs.YtihmfccpgahmaaaW.PrintMore Go.Proofs.YtihmfccpgahmaaaW.PrintLast Go.Proofs.Ytihmfccpgahmaaa.Dk Go.Proofs.Ytihmfccpgahmaaa.Q Go.Proofs.Ytihmfccpgahmaaa.Str Go.Proofs.Ytihmfccpgahmaaa.Leb
set_option linter.unusedVariables false
set_option linter.unusedSimpArgs false
theorem bytes_l0 (n : Nat) (h : n ≤ 2047) (x1 : Int) : ∀ (d k : Nat) (x5 : List Int) (x : Int), x5.length = n → 0 ≤ x → x ≤ n → n - x.toNat = d → d < k → ∃ r, dockmasterlaw05_bytes.l0 k x1 x5 (n : Int) x = some (strOfNums r) ∧ r.length = n := by
  intro d
  induction d with
  | zero =>
    intro k x5 x h5 h0 h1 hd hk
    obtain ⟨k, rfl⟩ : ∃ m, k = m + 1 := ⟨k - 1, by omega⟩
    simp only [dockmasterlaw05_bytes.l0]
    rw [if_neg (by omega)]
    exact ⟨x5, rfl, h5⟩
  | succ d ih =>
    intro k x5 x h5 h0 h1 hd hk
    obtain ⟨k, rfl⟩ : ∃ m, k = m + 1 := ⟨k - 1, by omega⟩
    simp only [dockmasterlaw05_bytes.l0]
    rw [if_pos (by omega), if_pos h0, if_pos (by omega)]
    have e : wrap64 (x + 1) = x + 1 := w64 (by omega) (by omega)
    rw [e]
    exact ih k _ (x + 1) (by rw [List.length_set]; exact h5) (by omega) (by omega) (by omega) (by omega)
/-- The law's bytes: a text of that size. -/
theorem bytes_r (n : Nat) (h : n ≤ 2047) (i : Int) (w : World) : Calls Try.prog 41 #[.int .i64 (n : Int), .int .i64 i] w fun e w' => ∃ r : ByteArray, e = .returned (.string r) ∧ r.size = n ∧ Below w.heap.size w w' := by
  obtain ⟨r, hr, hl⟩ := bytes_l0 n h i n (n + 1) (List.replicate n 0) 0 (List.length_replicate) (by omega) (by omega) (by omega) (by omega)
  refine (dockmasterlaw05_bytes.calls (n + 1) n i (strOfNums r) w ?_).mono ?_
  · unfold dockmasterlaw05_bytes.f
    rw [if_pos (by omega), if_pos (by omega), Int.toNat_natCast]
    show dockmasterlaw05_bytes.l0 _ i (List.replicate n 0) ((List.replicate n (0 : Int)).length : Int) 0 = _
    rw [List.length_replicate]
    exact hr
  · rintro e w' ⟨he, hb⟩
    exact ⟨_, he, by rw [size_str]; exact hl, hb⟩
/-- A conversion's row is read, as long as its block stays. -/
theorem conv_C {w W' : World} {e : TypeId} {s : ByteArray} (hs : s.size ≤ 9223372036854775807) (hb : W'.heap[w.heap.size]? = (Lib.bytesWorld w e s).heap[w.heap.size]?) : Kd.C (Kd.int .u8) W' (some ⟨w.heap.size, 0, none⟩) (bytesOf s).length (bytesOf s) := by
  have r := bytes_reads w e s hs
  rw [bytesOf_length]
  refine Kd.C_of_reads (enc := Value.int .u8) (d := (0 : Int)) (h1 := fun _ => rfl) ⟨r.1, r.2.1, fun hp => ?_⟩
  obtain ⟨ad, ha, hc⟩ := r.2.2 hp
  refine ⟨ad, ha, fun j hj => ?_⟩
  have := hc j hj
  injection ha with ha
  subst ha
  rw [add_plain] at this ⊢
  rw [← this]
  simp only [World.cell?, hb]
namespace WalRounds
set_option maxRecDepth 100000 in
set_option maxHeartbeats 8000000 in
theorem law_n (ring0 n0 size0 : Int) (w : World) (ring n size : Nat) (h1 : bits .and .i64 ring0 15 = (ring : Int) - 2) (h2 : bits .and .i64 size0 511 = (size : Int)) (h3 : bits .and .i64 n0 127 = (n : Int)) (hr : 2 ≤ ring ∧ ring ≤ 17) (hs : size ≤ 511) (hn : n ≤ 127) :
    Calls Try.prog 14 #[.int .i64 ring0, .int .i64 n0, .int .i64 size0] w fun e w' => e = .returned (.bool true) ∧ Below w.heap.size w w' := by
  have hnew := RI.new hr
  rw [show ((ring + 2 : Nat) : Int) = (ring : Int) + 2 by omega] at hnew
  obtain ⟨o1, L0, o2, o3⟩ := hnew
  have ww1 : wrap64 (2 + ((ring : Int) - 2)) = (ring : Int) := by unfold wrap64; omega
  have ww2 : wrap64 ((ring : Int) + 2) = (ring : Int) + 2 := by unfold wrap64; omega
  have HR := Aside0.mk hr
  have HS := Aside0.mk hs
  have HN := Aside0.mk hn
  have y0 : DY (DA.new (newN ((ring : Int) + 2)).toNat) := new_DY _
  have w0 : (DA.new (newN ((ring : Int) + 2)).toNat).wait.length = 0 := rfl
  obtain ⟨M0, hM0⟩ : ∃ M, M = DA.new (newN ((ring : Int) + 2)).toNat := ⟨_, rfl⟩
  rw [← hM0] at o1 o2 o3 y0 w0
  have H0 := Aside0.mk (And.intro hM0 (And.intro o1 (And.intro o2 (And.intro o3 (And.intro y0 w0)))))
  clear hM0 o1 o2 o3 y0 w0 hr hs hn
  go_enter Try.func14, Try.ntmps14
  go_wp2_with fail
  refine (head_ok _).mono ?_
  rintro e w1 ⟨rfl, hb⟩
  have HB := Aside0.mk hb
  clear hb
  go_wp2_with fail
  refine (st_new (w0 := w) _ _ HB.out).mono ?_
  rintro e w2 ⟨g, S, rfl, hi, hb, hs⟩
  rw [← H0.out.1] at hi
  have HI := Aside0.mk hi
  clear hi HB hb hs
  go_wp2_with fail
  refine (open_s HI.out H0.out.2.2.2.2.1 (by rw [H0.out.2.2.2.2.2]; decide) 0 ((ring : Int) + 2) (by have := HR.out; omega) (by omega) H0.out.2.2.1).mono ?_
  rw [H0.out.2.1]
  rintro e w3 ⟨p, S3, rfl, hp, hl, hs, hk⟩
  have HL := Aside0.mk hl
  have HRI := Aside0.mk H0.out.2.2.2.1
  clear hp hl hs hk HI
  go_wp2
  go_loopw [10] (fun i wr => ∃ k : Nat, k ≤ n ∧ i = .int .i64 k ∧ Aside0 (∃ S L M, Lg w wr p g S L M ∧ RI ring k L M)) (fun i _ => n - (intOf i).toNat)
  case atStart => exact ⟨0, Nat.zero_le _, rfl, ⟨_, _, _, HL.out, HRI.out⟩⟩
  case round =>
    obtain ⟨k, hk, rfl, hR⟩ := hrel
    clear HL HRI
    obtain ⟨S4, L, M, hl, hri⟩ := hR.out
    have HL := Aside0.mk hl
    have HRI := Aside0.mk hri
    clear hl hri hR
    by_cases hlt : k < n
    · have HLT := Aside0.mk hlt
      go_wp2_with fail
      refine (bytes_r size (by have := HS.out; omega) k _).mono ?_
      rintro e w5 ⟨r, rfl, hsz, hb⟩
      have HL5 := Aside0.mk (HL.out.below hb)
      have HSZ := Aside0.mk hsz
      obtain ⟨L1, L2, L3, M1, M2, M3, e1, ⟨k1, y1, q1, a1⟩, e2, ⟨k2, y2, q2⟩, e3, a3, f3, r3⟩ := HRI.out.round (by have := HN.out; omega) HR.out (byt_str r) (by rw [length_bytes, HSZ.out]; exact HS.out)
      have E1 := Aside0.mk (And.intro e1 (And.intro k1 (And.intro y1 (And.intro q1 a1))))
      have E2 := Aside0.mk (And.intro e2 (And.intro k2 (And.intro y2 q2)))
      have E3 := Aside0.mk (And.intro e3 (And.intro a3 (And.intro f3 r3)))
      clear e1 k1 y1 q1 a1 e2 k2 y2 q2 e3 a3 f3 r3 hb hsz HL hlt
      have hcv := fun (W : World) => print_bytes (P := Try.prog) 9 22 5 Try.underlying9 Try.underlying22 Try.underlying5 r W
      go_wp2_with fail
      have HL6 := Aside0.mk (HL5.out.below (bytes_below (Below.refl _ _) (Nat.le_refl _) 5 r))
      have hcap : (bytesOf r).length ≤ grownCap w5 r.size 0 5 := by rw [bytesOf_length]; exact grownCap_ge _ _ _ _
      refine (calls_of_args (args' := #[.pointer (some ⟨p, 0, none⟩), .slice (some ⟨w5.heap.size, 0, none⟩) (bytesOf r).length (grownCap w5 r.size 0 5)]) (by rw [bytesOf_length]) (append_l HL6.out (HRI.out.ok (by have := HLT.out; have := HN.out; omega) HR.out) _ _ (bytesOf r) (fun W' hk2 => conv_C (by have := HSZ.out; have := HS.out; omega) (hk2.block _ (by rw [Lib.bytesWorld_size]; omega) (fun h => h.elim (fun h => by have := (HL5.out.D.lt _ h).2; omega) (fun h => by have := HL5.out.lt; omega)))) hcap (byt_str r) (by have := HRI.out.w; omega) (by have := HRI.out.n1; have := HLT.out; have := HN.out; omega))).mono ?_
      rw [E1.out.1]
      rintro e w7 ⟨rfl, S7, hl, _, _⟩
      have HL7 := Aside0.mk (show Lg w w7 p g S7 L1 M1 from hl)
      clear hl HL6 HL5 hcap hcv
      go_wp2_with fail
      refine (found_l HL7.out E1.out.2.1 E1.out.2.2.1).mono ?_
      rw [E1.out.2.2.2.2]
      rintro e w8 ⟨v1, v2, rfl, hr1, hr2, hb⟩
      have HL8 := Aside0.mk (HL7.out.below hb)
      obtain ⟨kk1, c1, hv1, _⟩ := Kd.R_form hr1 (show 0 < 1 by decide)
      subst hv1
      have hc1 : w8.cell? ⟨kk1, 0, none⟩ = some (.string (strOfNums (bytesOf r))) := (Kd.R_celln (enc := Value.string) (h1 := fun _ => rfl) ByteArray.empty hr1 0 (by decide) (show (0 : Int) < ((1 : Nat) : Int) by decide)).1
      rw [str_bytesOf] at hc1
      clear hr1 hr2 hb HL7
      simp only [List.map_cons, List.map_nil, List.length_cons, List.length_nil]
      go_wp2_with fail
      refine (cut_l HL8.out E1.out.2.1 E1.out.2.2.1 L.next HRI.out.n0 (by have := HRI.out.n1; have := HLT.out; have := HN.out; omega) (by have := E1.out.2.2.2.1; omega)).mono ?_
      rw [E2.out.1]
      rintro e w9 ⟨rfl, S9, hl, _, _⟩
      have HL9 := Aside0.mk (show Lg w w9 p g S9 L2 M2 from hl)
      clear hl HL8 hc1
      go_wp2_with fail
      refine (next_l HL9.out).mono ?_
      rintro e w' ⟨rfl, hq⟩
      have hq2 := hq.symm
      clear hq
      subst hq2
      go_wp2_with fail
      refine (cut_l HL9.out E2.out.2.1 E2.out.2.2.1 L2.next (by have := E2.out.2.1.s0; have := E2.out.2.1.sn; omega) (by have := E2.out.2.1.nx; omega) (by have := E2.out.2.2.2; omega)).mono ?_
      rw [E3.out.1]
      rintro e w10 ⟨rfl, S10, hl, _, _⟩
      have HL10 := Aside0.mk (show Lg w w10 p g S10 L3 M3 from hl)
      clear hl HL9
      go_wp2_with fail
      have hk3 := E3.out.2.2.2.ok (by have h1 := HLT.out; have h2 := HN.out; omega) HR.out
      have HK3 := Aside0.mk hk3
      clear hk3
      refine (found_l HL10.out HK3.out E3.out.2.2.2.Y).mono ?_
      rw [E3.out.2.1]
      rintro e w11 ⟨v3, v4, rfl, hr1, hr2, hb⟩
      have HL11 := Aside0.mk (HL10.out.below hb)
      obtain ⟨A3, c3, hv3, _⟩ := Kd.R_reads hr1
      subst hv3
      clear hr1 hr2 hb HL10
      simp only [List.map_nil, List.length_nil]
      go_wp2_with fail
      refine (free_l HL11.out HK3.out).mono ?_
      rw [E3.out.2.2.1]
      rintro e w12 ⟨rfl, kk, hq⟩
      have HL12 := Aside0.mk (show Lg w w12 p g S10 L3 M3 by rw [hq]; exact HL11.out.below (below_drewN _ _))
      clear hq HL11
      have h1 := HLT.out
      have h2 := HN.out
      have he : wrap64 ((k : Int) + 1) = ((k + 1 : Nat) : Int) := by unfold wrap64; omega
      clear h1 h2
      go_wp2
      go_roundw
      case rel => exact ⟨k + 1, HLT.out, congrArg (Value.int .i64) he, ⟨_, _, _, HL12.out, E3.out.2.2.2⟩⟩
      case measure =>
        rw [he]
        exact (show n - (k + 1) < n - k from Nat.sub_lt_sub_left HLT.out (Nat.lt_succ_self k))
    · have hkn : k = n := Nat.le_antisymm hk (Nat.le_of_not_lt hlt)
      subst hkn
      clear hlt
      have hd : (opn M 0 ((ring : Int) + 2)).e = 0 ∧ ∃ L', (opn M 0 ((ring : Int) + 2)).L = some L' ∧ L'.life = 2 ∧ L'.start = L.start ∧ L'.next = L.next := by
        obtain ⟨L', a, b, c, d⟩ := HRI.out.opn (by have := HN.out; omega) HR.out
        rw [show ((ring + 2 : Nat) : Int) = (ring : Int) + 2 by omega] at a
        exact ⟨by rw [a], L', by rw [a], b, c, d⟩
      obtain ⟨oe, L', oL, ol, os, on⟩ := hd
      have HO := Aside0.mk (And.intro oe (And.intro oL (And.intro ol (And.intro os on))))
      clear oe oL ol os on
      go_wp2_with fail
      refine (open_s HL.out.D HRI.out.Y (by have := HRI.out.w; omega) 0 ((ring : Int) + 2) (by have := HR.out; omega) (by omega) HO.out.2.1).mono ?_
      rw [HO.out.1]
      rintro e w5 ⟨p2, S5, rfl, hp, hl, hs, hk⟩
      have HL5 := Aside0.mk hl
      have HP5 := Aside0.mk (show Lg w w5 p g S5 L (opn M 0 ((ring : Int) + 2)).M from ⟨hl.D, (hk.block p HL.out.lt HL.out.N).trans HL.out.B, HL.out.P, fun h => (hs _ h).elim HL.out.N (fun h => by have := HL.out.lt; omega)⟩)
      have HBB := Aside0.mk hl.D.B
      clear hp hl hs hk HL
      go_wp2_with fail
      refine (life_l HL5.out).mono ?_
      rw [HO.out.2.2.1]
      rintro e w' ⟨rfl, hq⟩
      have hq2 := hq.symm
      clear hq
      subst hq2
      go_wp2_with fail
      refine (start_l HL5.out).mono ?_
      rw [HO.out.2.2.2.1]
      rintro e w' ⟨rfl, hq⟩
      have hq2 := hq.symm
      clear hq
      subst hq2
      go_wp2_with fail
      refine (start_l HP5.out).mono ?_
      rintro e w' ⟨rfl, hq⟩
      have hq2 := hq.symm
      clear hq
      subst hq2
      go_wp2_with fail
      refine (next_l HL5.out).mono ?_
      rw [HO.out.2.2.2.2]
      rintro e w' ⟨rfl, hq⟩
      have hq2 := hq.symm
      clear hq
      subst hq2
      go_wp2_with fail
      refine (next_l HP5.out).mono ?_
      rintro e w' ⟨rfl, hq⟩
      have hq2 := hq.symm
      clear hq
      subst hq2
      go_wp2
      go_ret
      exact ⟨by simp, HBB.out⟩
theorem law_ok (ring n size : Int) (w : World) (hr : (Lit.int .i64 ring).wf = true) (hn : (Lit.int .i64 n).wf = true) (hs : (Lit.int .i64 size).wf = true) :
    Calls Try.prog 14 #[.int .i64 ring, .int .i64 n, .int .i64 size] w fun e w' => e = .returned (.bool true) ∧ Below w.heap.size w w' := by
  have e1 := Bits.and_15 ring
  have e2 := Bits.and_511 size
  have e3 := Bits.and_127 n
  refine law_n ring n size w ((ring % 16).toNat + 2) (n % 128).toNat (size % 512).toNat (by rw [e1]; omega) (by rw [e2]; omega) (by rw [e3]; omega) (by omega) (by omega) (by omega)
end WalRounds
end Go.Proofs.Ytihmfccpgahmaaa.Wal
