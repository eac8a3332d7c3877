/- Proved: MsgTurns answers true: a byte turned, one more, one less: it is no message, or another one. No conditions beyond the given statement's. -/
import Derived.Test.YtolcmjoapnldiaaMsgByt
import Derived.Test.YtolcmjoapnldiaaMsgApart
import Derived.Deep.QuietTactic
import Derived.BigQuiet
import Derived.Tactics2
namespace Go.Proofs.Ytolcmjoapnldiaa.MsgTurns
open Go Go.RowKit Go.Proofs.Ytolcmjoapnldiaa.Q Go.Proofs.YtolcmjoapnldiaaW.PrintWords Go.Proofs.YtolcmjoapnldiaaW.PrintLast Go.Proofs.Ytolcmjoapnldiaa.Leb Go.Proofs.Ytolcmjoapnldiaa.Str Go.Proofs.Ytolcmjoapnldiaa.Msg
set_option linter.unusedVariables false
set_option linter.unusedSimpArgs false
attribute [local go_sem high] eqA47

theorem empty_R (W : World) (base : Nat) (h : base ≤ W.heap.size) : Kd.R (Kd.int .u8) 5 (W.alloc (.cells #[] 5)) base (fun k => base ≤ k) (.slice (some ⟨W.heap.size, 0, none⟩) 0 0) [] :=
  Kd.R_of_own (h1 := fun _ => rfl) ⟨rfl, .inr ⟨W.heap.size, 0, #[], rfl, h, heap_alloc_new W _, Nat.le_refl _, by simp [maxLen], rfl, rfl⟩⟩ (fun k hk => by
    simp [Value.ownBlock] at hk
    omega)

theorem byt_set {l : List Int} (h : Byt l) (i : Nat) {x : Int} (hx : 0 ≤ x ∧ x < 256) : Byt (l.set i x) := fun y hy => by
  rcases List.mem_or_eq_of_mem_set hy with h1 | h1
  · exact h y h1
  · rw [h1]; exact hx

/-- A byte turned is another byte. -/
theorem xor_ne {x b : Int} (hx : 0 ≤ x ∧ x < 256) (hb : 0 ≤ b ∧ b < 256) (h : b ≠ 0) : bits .xor .u8 x b ≠ x ∧ 0 ≤ bits .xor .u8 x b ∧ bits .xor .u8 x b < 256 := by
  obtain ⟨x, rfl⟩ := Int.eq_ofNat_of_zero_le hx.1
  obtain ⟨b, rfl⟩ := Int.eq_ofNat_of_zero_le hb.1
  have e : bits .xor .u8 (x : Int) (b : Int) = ((x ^^^ b : Nat) : Int) := by
    have hx' : x % 2 ^ IntKind.u8.bits = x := Nat.mod_eq_of_lt (by simp [IntKind.bits]; omega)
    have hb' : b % 2 ^ IntKind.u8.bits = b := Nat.mod_eq_of_lt (by simp [IntKind.bits]; omega)
    have hq : x ^^^ b < 2 ^ 8 := Nat.xor_lt_two_pow (by omega) (by omega)
    simp only [bits, BitVec.ofInt_natCast, BitVec.toNat_xor, BitVec.toNat_ofNat, hx', hb']
    exact wraps_u8 _ (Int.natCast_nonneg _) (by exact_mod_cast hq)
  have hlt : x ^^^ b < 2 ^ 8 := Nat.xor_lt_two_pow (by omega) (by omega)
  rw [e]
  refine ⟨?_, by omega, by omega⟩
  intro h2
  have h3 : x ^^^ b = x := by omega
  have h4 : x ^^^ (x ^^^ b) = x ^^^ x := by rw [h3]
  rw [← Nat.xor_assoc, Nat.xor_self, Nat.zero_xor] at h4
  omega

theorem idx {i n : Int} (hn : 0 < n) : 0 ≤ (bits .and .i64 i 65535).tmod n ∧ (bits .and .i64 i 65535).tmod n < n := by
  have h0 : 0 ≤ bits .and .i64 i 65535 := by
    have hb' : (65535 : Nat) % 2 ^ IntKind.i64.bits = 65535 := by simp [IntKind.bits]
    have hq : (BitVec.ofInt IntKind.i64.bits i).toNat &&& 65535 ≤ 65535 := Nat.and_le_right
    show 0 ≤ bits .and .i64 i ((65535 : Nat) : Int)
    simp only [bits, BitVec.ofInt_natCast, BitVec.toNat_and, BitVec.toNat_ofNat, hb']
    rw [IntKind.wrap_i64]
    omega
  exact ⟨Int.tmod_nonneg _ h0, Int.tmod_lt_of_pos _ hn⟩

set_option maxHeartbeats 4000000 in
set_option maxRecDepth 100000 in
theorem good (m : MsgV) (i bits : Int) (w : World) (wm : Wf m) (rm : rightM m = true) (hb0 : (bits == 0) = false) (hbw : (Lit.int .u8 bits).wf = true) :
    Calls Try.prog 14 #[m.lay, .int .i64 i, .int .u8 bits] w fun e w' => e = .returned (.bool true) ∧ Below w.heap.size w w' := by
  have tm := rt_of m rm
  obtain ⟨l, hl⟩ : ∃ l, l = encM m := ⟨_, rfl⟩
  have n1 := (enc_len tm ⟨wm.tnum.1, wm.life.1⟩)
  have EM := Aside0.mk (enc_ok m wm rm)
  have hy := byt_enc m
  rw [← hl] at n1 EM hy
  have HL := Aside0.mk hl
  have BX := Aside0.mk (MBox.new m w)
  obtain ⟨at', hat⟩ : ∃ x, x = (Go.bits .and .i64 i 65535).tmod (l.length : Int) := ⟨_, rfl⟩
  have hix := idx (i := i) (n := (l.length : Int)) (by omega)
  rw [← hat] at hix
  have hbb := bounds_u8 hbw
  have hbz : bits ≠ 0 := by simpa using hb0
  have hgx : 0 ≤ rd l at' ∧ rd l at' < 256 := by
    have : at'.toNat < l.length := by omega
    unfold rd
    rw [List.getD_eq_getElem?_getD, List.getElem?_eq_getElem this]
    exact hy _ (List.getElem_mem this)
  have hxx := xor_ne hgx (by omega) hbz
  obtain ⟨nb, hnb⟩ : ∃ x, x = Go.bits .xor .u8 (rd l at') bits := ⟨_, rfl⟩
  rw [← hnb] at hxx
  obtain ⟨l', hl'⟩ : ∃ x, x = l.set at'.toNat nb := ⟨_, rfl⟩
  have hy' : Byt l' := by rw [hl']; exact byt_set hy _ hxx.2
  have hne : l' ≠ l := by
    intro h
    have h1 : at'.toNat < l.length := by omega
    have h2 : l'[at'.toNat]? = some nb := by rw [hl', List.getElem?_set_self h1]
    rw [h, List.getElem?_eq_getElem h1] at h2
    injection h2 with h2
    refine hxx.1 ?_
    rw [← h2]
    unfold rd
    rw [List.getD_eq_getElem?_getD, List.getElem?_eq_getElem h1]
    rfl
  have hlen : l'.length = l.length := by rw [hl', List.length_set]
  obtain ⟨x, f, hx, DX⟩ := dec_any l' hy'
  have DG := dec_none (l ++ [0]) (Byt.append hy (Byt.cons (by decide) (by decide) Byt.nil)) (fun m' r' w' h => by
    have := enc_inj (rt_of m' r') tm ⟨w'.tnum.1, w'.life.1⟩ ⟨wm.tnum.1, wm.life.1⟩ (s := []) (t := [0]) (by rw [h, ← hl, List.append_nil])
    exact absurd this.2 (by simp))
  have DH := dec_none (l.take (l.length - 1)) (hy.take _) (fun m' r' w' h => by
    have e : l = l.take (l.length - 1) ++ l.drop (l.length - 1) := (List.take_append_drop _ _).symm
    have := enc_inj (rt_of m' r') tm ⟨w'.tnum.1, w'.life.1⟩ ⟨wm.tnum.1, wm.life.1⟩ (s := l.drop (l.length - 1)) (t := []) (by rw [h, ← hl, List.append_nil]; exact e.symm)
    have h2 := congrArg List.length this.2
    rw [List.length_drop] at h2
    simp only [List.length_nil] at h2
    omega)
  have HX : Aside0 (f = 11 ∨ (f = 0 ∧ MsgApart.eqM x m = false)) := ⟨by
    rcases hx with ⟨h1, _, _, h4⟩ | ⟨h1, _⟩
    · refine .inr ⟨h1, ?_⟩
      rcases Bool.eq_false_or_eq_true (MsgApart.eqM x m) with hq | hq
      · rw [MsgApart.eqM_iff] at hq
        rw [hq, ← hl] at h4
        exact absurd h4.symm hne
      · exact hq
    · exact .inl h1⟩
  clear hx
  simp only [MsgV.lay, zeroM] at DX DG DH
  obtain ⟨l8, hl8⟩ : ∃ x, x = l ++ [0] := ⟨_, rfl⟩
  obtain ⟨l9, hl9⟩ : ∃ x, x = l.take (l.length - 1) := ⟨_, rfl⟩
  have hlen9 : l9.length = l.length - 1 := by rw [hl9, List.length_take]; omega
  rw [← hl8] at DG
  rw [← hl9] at DH
  have HL8 := Aside0.mk hl8
  have HL9 := Aside0.mk hl9
  have HN9 := Aside0.mk hlen9
  have DXA := Aside0.mk DX
  have DGA := Aside0.mk DG
  have DHA := Aside0.mk DH
  have hz : ((l.length : Int) == 0) = false := by rw [beq_eq_false_iff_ne]; omega
  have hz2 : (l.length == 0) = false := by rw [beq_eq_false_iff_ne]; omega
  have hz3 : ¬ l = [] := by intro h; rw [h] at n1; simp at n1
  have hl1 := Aside0.mk n1
  have HNB := Aside0.mk hnb
  have HL' := Aside0.mk hl'
  have HAT := Aside0.mk hat
  have HIX := Aside0.mk hix
  clear n1 hl hl8 hl9 hlen9 DX DG DH hnb hl' hat hix hy hgx hxx hne hy' tm
  go_enter Try.func14, Try.ntmps14
  go_wp2_with (go_at_call 27; refine (head_ok _).mono ?_; rintro e w1 ⟨rfl, hb1⟩; have HB := Aside0.mk (below_step (below_alloc (Below.refl _ _) _) hb1); have BA1 := Aside0.mk (BX.out.below hb1); obtain ⟨_, da0, da1, da2, da3, da4, da5, da6, da7, da8, da9, da10, da11⟩ := BA1.out; clear hb1)
  refine (EM.out _).mono ?_
  rintro e w2 ⟨A1, c1, rfl, hp1, hb2⟩
  have HB2 := Aside0.mk (below_step HB.out hb2)
  have BA2 := Aside0.mk (BA1.out.below hb2)
  have P1 := Aside0.mk hp1
  clear hb2 hp1 da0 da1 da2 da3 da4 da5 da6 da7 da8 da9 da10 da11 HB BA1
  go_wp2_with (at_builtin; refine Kd.R_append_rows (Kd.int .u8) (w0 := w2) w2.heap.size rfl (.tmp 34) (.tmp 35) 24 5 (.int .u8 0) 1 rfl Try.underlying24 info5 rfl (by decide) (by omega) _ [] l A1 l.length c1 (fun k => w2.heap.size ≤ k) (fun _ => False) rfl rfl (empty_R w2 _ (Nat.le_refl _)) (Kd.C_below P1.out.C (below_alloc (Below.refl _ _) _)) (fun _ _ h => h) (fun _ h => h.elim) (fun k hk => Nat.le_trans (below_alloc (Below.refl _ _) _).size hk) (below_alloc (Below.refl _ _) _) (below_alloc (Below.refl _ _) _).size (by have := hl1.out; simp; omega) ?_; intro v3 w3 hR hb _ _; rw [List.nil_append] at hR; obtain ⟨g, cap, rfl, hg1, hg2, _⟩ := Kd.R_form hR hl1.out.2; rw [← HAT.out]; have q1 := eq_true HIX.out.1; have q2 := eq_true HIX.out.2; obtain ⟨hcl, hfz⟩ := Kd.R_celln 0 hR at' HIX.out.1 HIX.out.2; have HP := Aside0.mk (Kd.R_putg hR at' nb); have HB3 := Aside0.mk (below_set (j := at'.toNat) (v := .int .u8 nb) hb hg1); clear hR hb)
  rw [show (Go.bits .xor .u8 (rdOf 0 l at') bits) = nb from HNB.out.symm]
  have hRn := HP.out.1
  rw [← HL'.out] at hRn
  generalize w3.setCell ⟨g, at'.toNat, none⟩ (.int .u8 nb) = w4 at hRn HB3 HP ⊢
  clear HP hcl hfz hg2
  obtain ⟨A4, c4, he, hs4⟩ := cs_of hRn
  injection he with e1 e2 e3
  subst e1 e3
  clear e2 hRn
  have D4 := DXA.out _ _ w4 hs4
  rw [hlen] at D4
  refine D4.mono ?_
  clear D4 hs4
  rintro e w5 ⟨rfl, hb5⟩
  have HB5 := Aside0.mk (below_step (below_step HB2.out HB3.out) hb5)
  have BA5 := Aside0.mk ((BA2.out.below HB3.out).below hb5)
  have P5 := Aside0.mk ((P1.out.step HB3.out).step hb5)
  clear hb5 HB3 HB2 BA2 P1 q1 q2
  go_upto_region 10 with fail
  obtain ⟨w6, hw6⟩ : ∃ w6, w6 = w5.alloc (.cells #[.int .i64 x.kind, .int .i64 x.src, .int .i64 x.dst, .int .u64 x.tnum, .int .i64 x.node, .int .u64 x.life, .int .i64 x.num, .int .i64 x.op, .string x.key, .string x.val, .bool x.has, .int .i64 x.code] 47) := ⟨_, rfl⟩
  have HB6 := Aside0.mk (below_alloc HB5.out (.cells #[.int .i64 x.kind, .int .i64 x.src, .int .i64 x.dst, .int .u64 x.tnum, .int .i64 x.node, .int .u64 x.life, .int .i64 x.num, .int .i64 x.op, .string x.key, .string x.val, .bool x.has, .int .i64 x.code] 47))
  have BA6 := Aside0.mk (BA5.out.below (below_alloc (Below.refl _ _) (.cells #[.int .i64 x.kind, .int .i64 x.src, .int .i64 x.dst, .int .u64 x.tnum, .int .i64 x.node, .int .u64 x.life, .int .i64 x.num, .int .i64 x.op, .string x.key, .string x.val, .bool x.has, .int .i64 x.code] 47)))
  have BX6 := Aside0.mk (MBox.new x w5)
  have P6 := Aside0.mk (P5.out.step (below_alloc (Below.refl _ _) (.cells #[.int .i64 x.kind, .int .i64 x.src, .int .i64 x.dst, .int .u64 x.tnum, .int .i64 x.node, .int .u64 x.life, .int .i64 x.num, .int .i64 x.op, .string x.key, .string x.val, .bool x.has, .int .i64 x.code] 47)))
  rw [← hw6] at HB6 BA6 BX6 P6 ⊢
  clear hw6 HB5 BA5 P5
  generalize w5.heap.size = k5 at BX6 ⊢
  go_upto_region 11 with (first
    | ((with_reducible refine gate_builtin (b := .append) (xs := #[.tmp 50, .tmp 51]) rfl ?_); at_builtin; refine Kd.R_append_rows (Kd.int .u8) (w0 := w6) w6.heap.size rfl (.tmp 50) (.tmp 51) 24 5 (.int .u8 0) 1 rfl Try.underlying24 info5 rfl (by decide) (by omega) _ [] l A1 l.length c1 (fun k => w6.heap.size ≤ k) (fun _ => False) rfl rfl (empty_R w6 _ (Nat.le_refl _)) (Kd.C_below P6.out.C (below_alloc (Below.refl _ _) _)) (fun _ _ h => h) (fun _ h => h.elim) (fun k hk => Nat.le_trans (below_alloc (Below.refl _ _) _).size hk) (below_alloc (Below.refl _ _) _) (below_alloc (Below.refl _ _) _).size (by have := hl1.out; simp; omega) ?_; intro v7 w7 hR hb _ _; rw [List.nil_append] at hR; have R7 := Aside0.mk hR; have HB7 := Aside0.mk hb; clear hR hb)
    | ((with_reducible refine gate_builtin (b := .append) (xs := #[.tmp 52, .tmp 53]) rfl ?_); at_builtin; refine Kd.R_append (Kd.int .u8) (w0 := w6) w6.heap.size rfl (.tmp 52) (.tmp 53) 24 5 (.int .u8 0) 1 rfl Try.underlying24 info5 rfl (by decide) (by omega) v7 l 0 [.int .u8 0] (fun k => w6.heap.size ≤ k) (fun _ => False) rfl rfl rfl (fun _ hk => hk.elim) (fun k hk => Nat.le_trans HB7.out.size hk) R7.out HB7.out HB7.out.size (by have := hl1.out; omega) ?_; intro v8 w8 hR hb _ _; rw [← HL8.out] at hR; obtain ⟨A8, c8, rfl, hs8⟩ := cs_of hR; have P8 := Aside0.mk hs8; have HB8 := Aside0.mk hb; clear hR hb hs8 R7 HB7)
    | (go_at_call 33; refine (DGA.out _ _ _ P8.out).mono ?_; rintro e w9 ⟨rfl, hb9⟩; have HB9 := Aside0.mk (below_step HB8.out hb9); clear hb9 P8 HB8))
  obtain ⟨w10, hw10⟩ : ∃ w10, w10 = w9.alloc (.cells #[.int .i64 0, .int .i64 0, .int .i64 0, .int .u64 0, .int .i64 0, .int .u64 0, .int .i64 0, .int .i64 0, .string ⟨#[]⟩, .string ⟨#[]⟩, .bool false, .int .i64 0] 47) := ⟨_, rfl⟩
  have HB10 := Aside0.mk (below_alloc (below_step HB6.out HB9.out) (.cells #[.int .i64 0, .int .i64 0, .int .i64 0, .int .u64 0, .int .i64 0, .int .u64 0, .int .i64 0, .int .i64 0, .string ⟨#[]⟩, .string ⟨#[]⟩, .bool false, .int .i64 0] 47))
  have BA10 := Aside0.mk ((BA6.out.below HB9.out).below (below_alloc (Below.refl _ _) (.cells #[.int .i64 0, .int .i64 0, .int .i64 0, .int .u64 0, .int .i64 0, .int .u64 0, .int .i64 0, .int .i64 0, .string ⟨#[]⟩, .string ⟨#[]⟩, .bool false, .int .i64 0] 47)))
  have BX10 := Aside0.mk ((BX6.out.below HB9.out).below (below_alloc (Below.refl _ _) (.cells #[.int .i64 0, .int .i64 0, .int .i64 0, .int .u64 0, .int .i64 0, .int .u64 0, .int .i64 0, .int .i64 0, .string ⟨#[]⟩, .string ⟨#[]⟩, .bool false, .int .i64 0] 47)))
  have P10 := Aside0.mk ((P6.out.step HB9.out).step (below_alloc (Below.refl _ _) (.cells #[.int .i64 0, .int .i64 0, .int .i64 0, .int .u64 0, .int .i64 0, .int .u64 0, .int .i64 0, .int .i64 0, .string ⟨#[]⟩, .string ⟨#[]⟩, .bool false, .int .i64 0] 47)))
  rw [← hw10] at HB10 BA10 BX10 P10 ⊢
  clear hw10 HB6 BA6 BX6 P6 HB9
  have u1 := P10.out.le
  have u2 := hl1.out.1
  have u3 := hl1.out.2
  generalize w9.heap.size = k9
  go_wp2_with fail
  have hs9 : Cs w10 A1 c1 l9 := ⟨by rw [HN9.out]; omega, by rw [HL9.out]; exact Kd.C_take P10.out.C (by omega)⟩
  have D9 := DHA.out _ _ w10 hs9
  rw [HN9.out] at D9
  refine D9.mono ?_
  clear D9 hs9
  rintro e w11 ⟨rfl, hb11⟩
  have HB11 := Aside0.mk (below_step HB10.out hb11)
  have BA11 := Aside0.mk (BA10.out.below hb11)
  have BX11 := Aside0.mk (BX10.out.below hb11)
  clear hb11 HB10 BA10 BX10
  go_upto_region 12 with fail
  obtain ⟨w12, hw12⟩ : ∃ w12, w12 = w11.alloc (.cells #[.int .i64 0, .int .i64 0, .int .i64 0, .int .u64 0, .int .i64 0, .int .u64 0, .int .i64 0, .int .i64 0, .string ⟨#[]⟩, .string ⟨#[]⟩, .bool false, .int .i64 0] 47) := ⟨_, rfl⟩
  have HB12 := Aside0.mk (below_alloc HB11.out (.cells #[.int .i64 0, .int .i64 0, .int .i64 0, .int .u64 0, .int .i64 0, .int .u64 0, .int .i64 0, .int .i64 0, .string ⟨#[]⟩, .string ⟨#[]⟩, .bool false, .int .i64 0] 47))
  have BA12 := Aside0.mk (BA11.out.below (below_alloc (Below.refl _ _) (.cells #[.int .i64 0, .int .i64 0, .int .i64 0, .int .u64 0, .int .i64 0, .int .u64 0, .int .i64 0, .int .i64 0, .string ⟨#[]⟩, .string ⟨#[]⟩, .bool false, .int .i64 0] 47)))
  have BX12 := Aside0.mk (BX11.out.below (below_alloc (Below.refl _ _) (.cells #[.int .i64 0, .int .i64 0, .int .i64 0, .int .u64 0, .int .i64 0, .int .u64 0, .int .i64 0, .int .i64 0, .string ⟨#[]⟩, .string ⟨#[]⟩, .bool false, .int .i64 0] 47)))
  rw [← hw12] at HB12 BA12 BX12 ⊢
  clear hw12 HB11 BA11 BX11
  obtain ⟨_, da0, da1, da2, da3, da4, da5, da6, da7, da8, da9, da10, da11⟩ := BA12.out
  obtain ⟨_, db0, db1, db2, db3, db4, db5, db6, db7, db8, db9, db10, db11⟩ := BX12.out
  generalize w11.heap.size = k11
  rcases HX.out with rfl | ⟨rfl, hq⟩
  · go_wp2
    go_ret
    exact ⟨rfl, HB12.out⟩
  · unfold MsgApart.eqM at hq
    go_wp2
    go_ret
    exact ⟨rfl, HB12.out⟩

set_option maxHeartbeats 4000000 in
set_option maxRecDepth 100000 in
theorem bad (m : MsgV) (i bits : Int) (w : World) (wm : Wf m) (k : Int) (hk : k = if rightM m = true then 0 else 1) (h : k = 1 ∨ (k = 0 ∧ bits = 0)) :
    Calls Try.prog 14 #[m.lay, .int .i64 i, .int .u8 bits] w fun e w' => e = .returned (.bool true) ∧ Below w.heap.size w w' := by
  have EM := Aside0.mk (MsgApart.enc_any m wm k hk)
  have BX := Aside0.mk (MBox.new m w)
  clear hk
  rcases h with rfl | ⟨rfl, rfl⟩
  all_goals
    go_enter Try.func14, Try.ntmps14
    go_wp2_with (go_at_call 27; refine (head_ok _).mono ?_; rintro e w1 ⟨rfl, hb1⟩; have HB := Aside0.mk (below_step (below_alloc (Below.refl _ _) _) hb1); have BA1 := Aside0.mk (BX.out.below hb1); obtain ⟨_, da0, da1, da2, da3, da4, da5, da6, da7, da8, da9, da10, da11⟩ := BA1.out; clear hb1)
    refine (EM.out _).mono ?_
    rintro e w2 ⟨A1, l1, c1, rfl, hb2⟩
    have HB2 := Aside0.mk (below_step HB.out hb2)
    clear hb2 da0 da1 da2 da3 da4 da5 da6 da7 da8 da9 da10 da11 HB BA1
    go_wp2
    go_ret
    exact ⟨rfl, HB2.out⟩

theorem law_ok (k1 s1 d1 : Int) (t1 n1 l1 u1 o1 : Int) (y1 v1 : ByteArray) (h1 : Bool) (c1 : Int) (i bits : Int) (w : World)
    (_ : (Lit.int .i64 k1).wf = true) (_ : (Lit.int .i64 s1).wf = true) (_ : (Lit.int .i64 d1).wf = true) (ht1 : (Lit.int .u64 t1).wf = true) (_ : (Lit.int .i64 n1).wf = true) (hl1 : (Lit.int .u64 l1).wf = true) (_ : (Lit.int .i64 u1).wf = true) (_ : (Lit.int .i64 o1).wf = true) (hy1 : y1.size ≤ maxLen) (hv1 : v1.size ≤ maxLen) (_ : (Lit.int .i64 c1).wf = true)
    (_ : (Lit.int .i64 i).wf = true) (hb : (Lit.int .u8 bits).wf = true) :
    Calls Try.prog 14 #[.agg #[.int .i64 k1, .int .i64 s1, .int .i64 d1, .int .u64 t1, .int .i64 n1, .int .u64 l1, .int .i64 u1, .int .i64 o1, .string y1, .string v1, .bool h1, .int .i64 c1], .int .i64 i, .int .u8 bits] w fun e w' => e = .returned (.bool true) ∧ Below w.heap.size w w' := by
  have b1 := bounds_u64 ht1
  have b2 := bounds_u64 hl1
  simp only [maxLen] at hy1 hv1
  obtain ⟨m, hm⟩ : ∃ m : MsgV, m = ⟨k1, s1, d1, t1, n1, l1, u1, o1, y1, v1, h1, c1⟩ := ⟨_, rfl⟩
  have wm : Wf m := by rw [hm]; exact ⟨by dsimp only; omega, by dsimp only; omega, by dsimp only; omega, by dsimp only; omega⟩
  have key : Calls Try.prog 14 #[m.lay, .int .i64 i, .int .u8 bits] w fun e w' => e = .returned (.bool true) ∧ Below w.heap.size w w' := by
    rcases Bool.eq_false_or_eq_true (rightM m) with hr | hr
    · by_cases hz : bits = 0
      · exact bad m i bits w wm 0 (by rw [hr]; rfl) (.inr ⟨rfl, hz⟩)
      · exact good m i bits w wm hr (by simpa using hz) hb
    · exact bad m i bits w wm 1 (by rw [hr]; rfl) (.inl rfl)
  rw [hm] at key
  exact key

end Go.Proofs.Ytolcmjoapnldiaa.MsgTurns
