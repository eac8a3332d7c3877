/- Proved: MsgApart answers true: unlike right messages are unlike bytes, and go into a letter. No conditions beyond the given statement's. -/
import Derived.Test.YtolcmjoapnldiaaMsg
import Derived.Deep.QuietTactic
import Derived.BigQuiet
import Derived.Deep.RegionHeld3
import Derived.Deep.RegionWith
import Derived.RegionTactic
import Derived.Tactics2
namespace Go.Proofs.Ytolcmjoapnldiaa.MsgApart
open Go Go.RowKit Go.Proofs.Ytolcmjoapnldiaa.Q Go.Proofs.YtolcmjoapnldiaaW.PrintWords Go.Proofs.YtolcmjoapnldiaaW.PrintLast Go.Proofs.Ytolcmjoapnldiaa.Leb Go.Proofs.Ytolcmjoapnldiaa.Str Go.Proofs.Ytolcmjoapnldiaa.Msg
set_option linter.unusedVariables false
set_option linter.unusedSimpArgs false
attribute [local go_sem high] eqA47

def eqM (a b : MsgV) : Bool := a.kind == b.kind && (a.src == b.src && (a.dst == b.dst && ((a.tnum == b.tnum && (a.node == b.node)) && (a.life == b.life && (a.num == b.num && (a.op == b.op && (a.key.toList == b.key.toList && (a.val.toList == b.val.toList && (a.has == b.has && (a.code == b.code))))))))))

theorem eqM_iff {a b : MsgV} : eqM a b = true ↔ a = b := by
  obtain ⟨kind, src, dst, tnum, node, life, num, op, key, val, has, code⟩ := a
  obtain ⟨kind', src', dst', tnum', node', life', num', op', key', val', has', code'⟩ := b
  unfold eqM
  simp only [Bool.and_eq_true, beq_iff_eq, toList_inj, MsgV.mk.injEq]
  constructor
  · rintro ⟨h1, h2, h3, ⟨h4, h5⟩, h6, h7, h8, h9, h10, h11, h12⟩
    exact ⟨h1, h2, h3, h4, h5, h6, h7, h8, h9, h10, h11, h12⟩
  · rintro ⟨h1, h2, h3, h4, h5, h6, h7, h8, h9, h10, h11, h12⟩
    exact ⟨h1, h2, h3, ⟨h4, h5⟩, h6, h7, h8, h9, h10, h11, h12⟩

theorem str_eq (a b : MsgV) (ra : Rt a) (rb : Rt b) (wa : Wf a) (wb : Wf b) : ((strOfNums (encM a)).toList == (strOfNums (encM b)).toList) = eqM a b := by
  rw [Bool.eq_iff_iff, eqM_iff, beq_iff_eq, toList_str (byt_enc a) (byt_enc b)]
  constructor
  · intro h
    exact (enc_inj ra rb ⟨wa.tnum.1, wa.life.1⟩ ⟨wb.tnum.1, wb.life.1⟩ (s := []) (t := []) (by rw [h])).1
  · rintro rfl
    rfl

set_option maxHeartbeats 4000000 in
set_option maxRecDepth 100000 in
theorem both (a b : MsgV) (w : World) (wa : Wf a) (wb : Wf b) (ra : rightM a = true) (rb : rightM b = true) :
    Calls Try.prog 9 #[a.lay, b.lay] w fun e w' => e = .returned (.bool true) ∧ Below w.heap.size w w' := by
  have ta := rt_of a ra
  have tb := rt_of b rb
  have k1 : a.key.size ≤ 24 := by
    rcases Bool.eq_false_or_eq_true (hasO a.kind) with h | h
    · exact (ta.op h).2.2
    · rw [(ta.no h).2]; decide
  have k2 : b.key.size ≤ 24 := by
    rcases Bool.eq_false_or_eq_true (hasO b.kind) with h | h
    · exact (tb.op h).2.2
    · rw [(tb.no h).2]; decide
  have v1 := ta.val
  have v2 := tb.val
  have hq := Aside0.mk (str_eq a b ta tb wa wb)
  obtain ⟨la, hla⟩ : ∃ l, l = encM a := ⟨_, rfl⟩
  obtain ⟨lb, hlb⟩ : ∃ l, l = encM b := ⟨_, rfl⟩
  have n1 := (enc_len ta ⟨wa.tnum.1, wa.life.1⟩).1
  have n2 := (enc_len tb ⟨wb.tnum.1, wb.life.1⟩).1
  have EA := Aside0.mk (enc_ok a wa ra)
  have EB := Aside0.mk (enc_ok b wb rb)
  rw [← hla] at n1 EA hq
  rw [← hlb] at n2 EB hq
  have HLA := Aside0.mk hla
  have HLB := Aside0.mk hlb
  have BX := Aside0.mk (MBox.two a b w)
  clear hla hlb ra rb ta tb wa wb
  go_enter Try.func9, Try.ntmps9
  go_wp2_with (go_at_call 27; refine (head_ok _).mono ?_; rintro e w1 ⟨rfl, hb1⟩; have HB := Aside0.mk (below_step (below_alloc (below_alloc (Below.refl _ _) _) _) hb1); have BA1 := Aside0.mk (BX.out.1.below hb1); have BB1 := Aside0.mk (BX.out.2.below hb1); obtain ⟨_, da0, da1, da2, da3, da4, da5, da6, da7, da8, da9, da10, da11⟩ := BA1.out; obtain ⟨_, db0, db1, db2, db3, db4, db5, db6, db7, db8, db9, db10, db11⟩ := BB1.out; clear hb1)
  refine (EA.out _).mono ?_
  rintro e w2 ⟨A1, c1, rfl, hp1, hb2⟩
  have HB2 := Aside0.mk (below_step HB.out hb2)
  have BA2 := Aside0.mk (BA1.out.below hb2)
  have BB2 := Aside0.mk (BB1.out.below hb2)
  have P1 := Aside0.mk hp1
  clear hb2 hp1 da0 da1 da2 da3 da4 da5 da6 da7 da8 da9 da10 da11 db0 db1 db2 db3 db4 db5 db6 db7 db8 db9 db10 db11 HB BA1 BB1
  obtain ⟨_, db0, db1, db2, db3, db4, db5, db6, db7, db8, db9, db10, db11⟩ := BB2.out
  go_wp2_with fail
  refine (EB.out _).mono ?_
  rintro e w3 ⟨A2, c2, rfl, hp2, hb3⟩
  have HB3 := Aside0.mk (below_step HB2.out hb3)
  have BA3 := Aside0.mk (BA2.out.below hb3)
  have BB3 := Aside0.mk (BB2.out.below hb3)
  have P1' := Aside0.mk (P1.out.step hb3)
  have P2 := Aside0.mk hp2
  clear hb3 hp2 db0 db1 db2 db3 db4 db5 db6 db7 db8 db9 db10 db11 HB2 BA2 BB2 P1
  obtain ⟨_, da0, da1, da2, da3, da4, da5, da6, da7, da8, da9, da10, da11⟩ := BA3.out
  obtain ⟨_, db0, db1, db2, db3, db4, db5, db6, db7, db8, db9, db10, db11⟩ := BB3.out
  have cv1 := fun n => P1'.out.conv (drewn w3 n)
  have cv2 := fun n => P2.out.conv (drewn w3 n)
  have t1 : decide (la.length ≤ 150) = true := decide_eq_true n1
  have t2 : decide ((la.length : Int) ≤ 150) = true := decide_eq_true (by omega)
  have t3 : decide (lb.length ≤ 150) = true := decide_eq_true n2
  have t4 : decide ((lb.length : Int) ≤ 150) = true := decide_eq_true (by omega)
  obtain ⟨q, hQ⟩ : ∃ q, eqM a b = q := ⟨_, rfl⟩
  have e1 := hq.out
  rw [hQ] at e1
  unfold eqM at hQ
  go_wp2
  go_quiet (fail)
  go_wp2
  go_ret
  exact ⟨rfl, pw_below_drewN HB3.out _⟩

theorem enc_any (m : MsgV) (hw : Wf m) (k : Int) (hk : k = if rightM m = true then 0 else 1) (w : World) :
    Calls Try.prog 28 #[m.lay] w fun e w' => ∃ A n c, e = .returned (.tuple #[.slice A n c, .int .i64 k]) ∧ Below w.heap.size w w' := by
  subst hk
  rcases Bool.eq_false_or_eq_true (rightM m) with h | h
  · rw [h]
    exact (enc_ok m hw h w).mono fun _ _ ⟨A, c, e, _, hb⟩ => ⟨A, _, c, e, hb⟩
  · rw [h]
    exact (enc_no m hw h w).mono fun _ _ ⟨A, c, e, hb⟩ => ⟨A, _, c, e, hb⟩

set_option maxHeartbeats 4000000 in
set_option maxRecDepth 100000 in
theorem other (a b : MsgV) (w : World) (ka kb : Int) (wa : Wf a) (wb : Wf b) (ea : ka = if rightM a = true then 0 else 1) (eb : kb = if rightM b = true then 0 else 1) (h : ka = 1 ∨ (ka = 0 ∧ kb = 1)) :
    Calls Try.prog 9 #[a.lay, b.lay] w fun e w' => e = .returned (.bool true) ∧ Below w.heap.size w w' := by
  have EA := Aside0.mk (enc_any a wa ka ea)
  have EB := Aside0.mk (enc_any b wb kb eb)
  have k1 := wa.key
  have k2 := wa.val
  have k3 := wb.key
  have k4 := wb.val
  have BX := Aside0.mk (MBox.two a b w)
  clear ea eb wa wb
  have J : (ka != 0) = true ∨ (ka != 0) = false ∧ (kb != 0) = true := by
    rcases h with rfl | ⟨rfl, rfl⟩
    · exact .inl rfl
    · exact .inr ⟨rfl, rfl⟩
  clear h
  go_enter Try.func9, Try.ntmps9
  go_wp2_with (go_at_call 27; refine (head_ok _).mono ?_; rintro e w1 ⟨rfl, hb1⟩; have HB := Aside0.mk (below_step (below_alloc (below_alloc (Below.refl _ _) _) _) hb1); have BA1 := Aside0.mk (BX.out.1.below hb1); have BB1 := Aside0.mk (BX.out.2.below hb1); obtain ⟨_, da0, da1, da2, da3, da4, da5, da6, da7, da8, da9, da10, da11⟩ := BA1.out; obtain ⟨_, db0, db1, db2, db3, db4, db5, db6, db7, db8, db9, db10, db11⟩ := BB1.out; clear hb1)
  · go_ret
    exact ⟨rfl, HB.out⟩
  · refine (EA.out _).mono ?_
    rintro e w2 ⟨A1, l1, c1, rfl, hb2⟩
    have HB2 := Aside0.mk (below_step HB.out hb2)
    have BB2 := Aside0.mk (BB1.out.below hb2)
    clear hb2 da0 da1 da2 da3 da4 da5 da6 da7 da8 da9 da10 da11 db0 db1 db2 db3 db4 db5 db6 db7 db8 db9 db10 db11 HB BA1 BB1
    obtain ⟨_, db0, db1, db2, db3, db4, db5, db6, db7, db8, db9, db10, db11⟩ := BB2.out
    go_wp2_with fail
    refine (EB.out _).mono ?_
    rintro e w3 ⟨A2, l2, c2, rfl, hb3⟩
    have HB3 := Aside0.mk (below_step HB2.out hb3)
    clear hb3 db0 db1 db2 db3 db4 db5 db6 db7 db8 db9 db10 db11 HB2 BB2
    rcases J with J1 | ⟨J1, J2⟩
    · go_wp2
      go_ret
      exact ⟨rfl, HB3.out⟩
    · go_wp2
      go_ret
      exact ⟨rfl, HB3.out⟩

theorem law_m (a b : MsgV) (w : World) (wa : Wf a) (wb : Wf b) :
    Calls Try.prog 9 #[a.lay, b.lay] w fun e w' => e = .returned (.bool true) ∧ Below w.heap.size w w' := by
  rcases Bool.eq_false_or_eq_true (rightM a) with ha | ha
  · rcases Bool.eq_false_or_eq_true (rightM b) with hb | hb
    · exact both a b w wa wb ha hb
    · exact other a b w 0 1 wa wb (by rw [ha]; rfl) (by rw [hb]; rfl) (.inr ⟨rfl, rfl⟩)
  · exact other a b w 1 (if rightM b = true then 0 else 1) wa wb (by rw [ha]; rfl) rfl (.inl rfl)

theorem law_ok (k1 s1 d1 : Int) (t1 n1 l1 u1 o1 : Int) (y1 v1 : ByteArray) (h1 : Bool) (c1 : Int) (k2 s2 d2 : Int) (t2 n2 l2 u2 o2 : Int) (y2 v2 : ByteArray) (h2 : Bool) (c2 : Int) (w : World)
    (_ : (Lit.int .i64 k1).wf = true) (_ : (Lit.int .i64 s1).wf = true) (_ : (Lit.int .i64 d1).wf = true) (ht1 : (Lit.int .u64 t1).wf = true) (_ : (Lit.int .i64 n1).wf = true) (hl1 : (Lit.int .u64 l1).wf = true) (_ : (Lit.int .i64 u1).wf = true) (_ : (Lit.int .i64 o1).wf = true) (hy1 : y1.size ≤ maxLen) (hv1 : v1.size ≤ maxLen) (_ : (Lit.int .i64 c1).wf = true)
    (_ : (Lit.int .i64 k2).wf = true) (_ : (Lit.int .i64 s2).wf = true) (_ : (Lit.int .i64 d2).wf = true) (ht2 : (Lit.int .u64 t2).wf = true) (_ : (Lit.int .i64 n2).wf = true) (hl2 : (Lit.int .u64 l2).wf = true) (_ : (Lit.int .i64 u2).wf = true) (_ : (Lit.int .i64 o2).wf = true) (hy2 : y2.size ≤ maxLen) (hv2 : v2.size ≤ maxLen) (_ : (Lit.int .i64 c2).wf = true) :
    Calls Try.prog 9 #[.agg #[.int .i64 k1, .int .i64 s1, .int .i64 d1, .int .u64 t1, .int .i64 n1, .int .u64 l1, .int .i64 u1, .int .i64 o1, .string y1, .string v1, .bool h1, .int .i64 c1], .agg #[.int .i64 k2, .int .i64 s2, .int .i64 d2, .int .u64 t2, .int .i64 n2, .int .u64 l2, .int .i64 u2, .int .i64 o2, .string y2, .string v2, .bool h2, .int .i64 c2]] w fun e w' => e = .returned (.bool true) ∧ Below w.heap.size w w' := by
  have b1 := bounds_u64 ht1
  have b2 := bounds_u64 hl1
  have b3 := bounds_u64 ht2
  have b4 := bounds_u64 hl2
  simp only [maxLen] at hy1 hv1 hy2 hv2
  exact law_m ⟨k1, s1, d1, t1, n1, l1, u1, o1, y1, v1, h1, c1⟩ ⟨k2, s2, d2, t2, n2, l2, u2, o2, y2, v2, h2, c2⟩ w ⟨by dsimp only; omega, by dsimp only; omega, by dsimp only; omega, by dsimp only; omega⟩ ⟨by dsimp only; omega, by dsimp only; omega, by dsimp only; omega, by dsimp only; omega⟩

end Go.Proofs.Ytolcmjoapnldiaa.MsgApart
