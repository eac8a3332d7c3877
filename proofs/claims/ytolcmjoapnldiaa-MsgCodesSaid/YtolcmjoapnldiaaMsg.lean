/- What the functions of package msg do, walked: contracts in terms of the plain functions of MsgRt and MsgEnc; boxes of messages. Conditions: the fields' kinds' bounds. -/
import Derived.Test.YtolcmjoapnldiaaM5
import Derived.Test.YtolcmjoapnldiaaMsgEnc
import Derived.Test.YtolcmjoapnldiaaWInvWords
import Derived.Test.YtolcmjoapnldiaaWLast
import Derived.Test.YtolcmjoapnldiaaRd
namespace Go.Proofs.Ytolcmjoapnldiaa.Msg
open Go Go.RowKit Go.Proofs.Ytolcmjoapnldiaa.Q Go.Proofs.YtolcmjoapnldiaaW.PrintWords Go.Proofs.YtolcmjoapnldiaaW.PrintLast Go.Proofs.Ytolcmjoapnldiaa.Leb Go.Proofs.Ytolcmjoapnldiaa.Str
set_option linter.unusedVariables false
set_option linter.unusedSimpArgs false

theorem eqA28 (d : Nat) (w : World) (x0 y0 : Int) (x1 y1 : Int) :
    (Op.equalIn (d + 2) 28 (.agg #[.int .u64 x0, .int .i64 x1]) (.agg #[.int .u64 y0, .int .i64 y1])).run Try.prog w = .ok (x0 == y0 && (x1 == y1)) w := by
  refine eqA_of Try.underlying28 (by kernel_rfl) ?_
  refine eqf_cons (by rfl) (by go_simp; rfl) (by go_simp; rfl) (by go_simp) ?_
  exact eqf_last (by rfl) (by go_simp; rfl) (by go_simp; rfl) (by go_simp)
theorem eqA47 (d : Nat) (w : World) (x0 y0 : Int) (x1 y1 : Int) (x2 y2 : Int) (x3 y3 : Int) (x4 y4 : Int) (x5 y5 : Int) (x6 y6 : Int) (x7 y7 : Int) (x8 y8 : ByteArray) (x9 y9 : ByteArray) (x10 y10 : Bool) (x11 y11 : Int) :
    (Op.equalIn (d + 3) 47 (.agg #[.int .i64 x0, .int .i64 x1, .int .i64 x2, .int .u64 x3, .int .i64 x4, .int .u64 x5, .int .i64 x6, .int .i64 x7, .string x8, .string x9, .bool x10, .int .i64 x11]) (.agg #[.int .i64 y0, .int .i64 y1, .int .i64 y2, .int .u64 y3, .int .i64 y4, .int .u64 y5, .int .i64 y6, .int .i64 y7, .string y8, .string y9, .bool y10, .int .i64 y11])).run Try.prog w = .ok (x0 == y0 && (x1 == y1 && (x2 == y2 && ((x3 == y3 && (x4 == y4)) && (x5 == y5 && (x6 == y6 && (x7 == y7 && (x8.toList == y8.toList && (x9.toList == y9.toList && (x10 == y10 && (x11 == y11))))))))))) w := by
  refine eqA_of Try.underlying47 (by kernel_rfl) ?_
  refine eqf_cons (by rfl) (by go_simp; rfl) (by go_simp; rfl) (by go_simp) ?_
  refine eqf_cons (by rfl) (by go_simp; rfl) (by go_simp; rfl) (by go_simp) ?_
  refine eqf_cons (by rfl) (by go_simp; rfl) (by go_simp; rfl) (by go_simp) ?_
  refine eqf_cons (by rfl) (by go_simp) (by go_simp) (eqA28 (d + 0) w _ _ _ _) ?_
  refine eqf_cons (by rfl) (by go_simp; rfl) (by go_simp; rfl) (by go_simp) ?_
  refine eqf_cons (by rfl) (by go_simp; rfl) (by go_simp; rfl) (by go_simp) ?_
  refine eqf_cons (by rfl) (by go_simp; rfl) (by go_simp; rfl) (by go_simp) ?_
  refine eqf_cons (by rfl) (by go_simp; rfl) (by go_simp; rfl) (by go_simp) ?_
  refine eqf_cons (by rfl) (by go_simp; rfl) (by go_simp; rfl) (by go_simp) ?_
  refine eqf_cons (by rfl) (by go_simp; rfl) (by go_simp; rfl) (by go_simp) ?_
  exact eqf_last (by rfl) (by go_simp; rfl) (by go_simp; rfl) (by go_simp)

/-- Bytes that are read. -/
structure Cs (w : World) (A : Option Addr) (c : Nat) (l : List Int) : Prop where
  le : l.length ≤ c
  C : Kd.C (Kd.int .u8) w A l.length l

theorem Cs.step {w w' : World} {A : Option Addr} {c : Nat} {l : List Int} (h : Cs w A c l) (hb : Below w.heap.size w w') : Cs w' A c l := ⟨h.le, Kd.C_below h.C hb⟩
theorem Cs.conv {w W : World} {A : Option Addr} {c : Nat} {l : List Int} (h : Cs w A c l) (hW : Below w.heap.size w W) : (convert 24 9 (.slice A l.length c)).run Try.prog W = .ok (.string (strOfNums l)) W := by
  have := conv_take h.C hW c (Nat.le_refl _)
  rw [List.take_length] at this
  exact this

theorem undrew {w w' : World} (h : Below w.drew.heap.size w.drew w') : Below w.heap.size w w' := ⟨h.os, h.tape, h.output, h.size, h.block⟩
theorem undrewN {w w' : World} {n : Nat} (h : Below (w.drewN n).heap.size (w.drewN n) w') : Below w.heap.size w w' := ⟨h.os, h.tape, h.output, h.size, h.block⟩
theorem drewn (w : World) (n : Nat) : Below w.heap.size w (w.drewN n) := pw_below_drewN (Below.refl _ _) n

theorem cs_of {w' : World} {base : Nat} {ok : Nat → Prop} {v : Value} {l : List Int} (h : Kd.R (Kd.int .u8) 5 w' base ok v l) : ∃ A c, v = .slice A l.length c ∧ Cs w' A c l := by
  obtain ⟨A, c, he, hl, hC⟩ := Kd.R_reads h
  exact ⟨A, c, he, hl, hC⟩


theorem enc_ok (m : MsgV) (hw : Wf m) (h : rightM m = true) (w : World) :
    Calls Try.prog 28 #[m.lay] w fun e w' => ∃ A c, e = .returned (.tuple #[.slice A (encM m).length c, .int .i64 0]) ∧ Cs w' A c (encM m) ∧ Below w.heap.size w w' := by
  refine (msg_Encode.calls 14 m.kind m.src m.dst m.tnum m.node m.life m.num m.op m.key m.val m.has m.code (encM m) 0 w (enc_f 0 m hw h)).mono ?_
  rintro e w' ⟨v0, rfl, hR, hB⟩
  obtain ⟨A, c, rfl, hs⟩ := cs_of hR
  exact ⟨A, c, rfl, hs, hB⟩

theorem enc_no (m : MsgV) (hw : Wf m) (h : rightM m = false) (w : World) :
    Calls Try.prog 28 #[m.lay] w fun e w' => ∃ A c, e = .returned (.tuple #[.slice A 0 c, .int .i64 1]) ∧ Below w.heap.size w w' := by
  refine (msg_Encode.calls 0 m.kind m.src m.dst m.tnum m.node m.life m.num m.op m.key m.val m.has m.code [] 1 w (enc_bad 0 m hw h)).mono ?_
  rintro e w' ⟨v0, rfl, hR, hB⟩
  obtain ⟨A, c, rfl, hs⟩ := cs_of hR
  exact ⟨A, c, rfl, hB⟩

theorem head_ok (w : World) : Calls Try.prog 27 #[] w fun e w' => e = .returned (.bool true) ∧ Below w.heap.size w w' := by
  refine dockmasterlaw15_head.calls 14 true w ?_
  have hw : Wf ⟨8, 1, 0, 5, 0, 0, 0, 0, ByteArray.empty, ByteArray.empty, false, 0⟩ := ⟨by decide, by decide, by decide, by decide⟩
  have hr : rightM ⟨8, 1, 0, 5, 0, 0, 0, 0, ByteArray.empty, ByteArray.empty, false, 0⟩ = true := by simp [rightM, rt1, rt2, rt3, rt4, rt5, nodeB, hasL, hasN, hasO, hasA]
  have he : encM ⟨8, 1, 0, 5, 0, 0, 0, 0, ByteArray.empty, ByteArray.empty, false, 0⟩ = [8, 1, 0, 5, 0] := by simp [encM, restM, leb]
  have := enc_f 0 _ hw hr
  dsimp only at this
  unfold dockmasterlaw15_head.f
  rw [show (⟨#[]⟩ : ByteArray) = ByteArray.empty from rfl, this, he]
  simp only [Option.bind_some]
  rw [if_pos trivial, Lib.strOfNums_toList]
  rfl

/-- A box of a message. -/
structure MBox (m : MsgV) (k : Nat) (W : World) : Prop where
  lt : k < W.heap.size
  d0 : W.cell? ⟨k, 0, none⟩ = some (.int .i64 m.kind)
  d1 : W.cell? ⟨k, 1, none⟩ = some (.int .i64 m.src)
  d2 : W.cell? ⟨k, 2, none⟩ = some (.int .i64 m.dst)
  d3 : W.cell? ⟨k, 3, none⟩ = some (.int .u64 m.tnum)
  d4 : W.cell? ⟨k, 4, none⟩ = some (.int .i64 m.node)
  d5 : W.cell? ⟨k, 5, none⟩ = some (.int .u64 m.life)
  d6 : W.cell? ⟨k, 6, none⟩ = some (.int .i64 m.num)
  d7 : W.cell? ⟨k, 7, none⟩ = some (.int .i64 m.op)
  d8 : W.cell? ⟨k, 8, none⟩ = some (.string m.key)
  d9 : W.cell? ⟨k, 9, none⟩ = some (.string m.val)
  d10 : W.cell? ⟨k, 10, none⟩ = some (.bool m.has)
  d11 : W.cell? ⟨k, 11, none⟩ = some (.int .i64 m.code)

theorem MBox.below {m : MsgV} {k : Nat} {W W1 : World} (h : MBox m k W) (hb : Below W.heap.size W W1) : MBox m k W1 := by
  have := hb.size
  have hl := h.lt
  exact ⟨by omega, by rw [hb.cell (p := ⟨k, 0, none⟩) (by simp; omega)]; exact h.d0, by rw [hb.cell (p := ⟨k, 1, none⟩) (by simp; omega)]; exact h.d1, by rw [hb.cell (p := ⟨k, 2, none⟩) (by simp; omega)]; exact h.d2, by rw [hb.cell (p := ⟨k, 3, none⟩) (by simp; omega)]; exact h.d3, by rw [hb.cell (p := ⟨k, 4, none⟩) (by simp; omega)]; exact h.d4, by rw [hb.cell (p := ⟨k, 5, none⟩) (by simp; omega)]; exact h.d5, by rw [hb.cell (p := ⟨k, 6, none⟩) (by simp; omega)]; exact h.d6, by rw [hb.cell (p := ⟨k, 7, none⟩) (by simp; omega)]; exact h.d7, by rw [hb.cell (p := ⟨k, 8, none⟩) (by simp; omega)]; exact h.d8, by rw [hb.cell (p := ⟨k, 9, none⟩) (by simp; omega)]; exact h.d9, by rw [hb.cell (p := ⟨k, 10, none⟩) (by simp; omega)]; exact h.d10, by rw [hb.cell (p := ⟨k, 11, none⟩) (by simp; omega)]; exact h.d11⟩

theorem MBox.new (m : MsgV) (w : World) : MBox m w.heap.size (w.alloc (.cells #[.int .i64 m.kind, .int .i64 m.src, .int .i64 m.dst, .int .u64 m.tnum, .int .i64 m.node, .int .u64 m.life, .int .i64 m.num, .int .i64 m.op, .string m.key, .string m.val, .bool m.has, .int .i64 m.code] 47)) := by
  have b1 : (w.alloc (.cells #[.int .i64 m.kind, .int .i64 m.src, .int .i64 m.dst, .int .u64 m.tnum, .int .i64 m.node, .int .u64 m.life, .int .i64 m.num, .int .i64 m.op, .string m.key, .string m.val, .bool m.has, .int .i64 m.code] 47)).heap[w.heap.size]? = some (.cells #[.int .i64 m.kind, .int .i64 m.src, .int .i64 m.dst, .int .u64 m.tnum, .int .i64 m.node, .int .u64 m.life, .int .i64 m.num, .int .i64 m.op, .string m.key, .string m.val, .bool m.has, .int .i64 m.code] 47) := blk_new w _
  exact ⟨by simp, (blk_cell b1 0).trans rfl, (blk_cell b1 1).trans rfl, (blk_cell b1 2).trans rfl, (blk_cell b1 3).trans rfl, (blk_cell b1 4).trans rfl, (blk_cell b1 5).trans rfl, (blk_cell b1 6).trans rfl, (blk_cell b1 7).trans rfl, (blk_cell b1 8).trans rfl, (blk_cell b1 9).trans rfl, (blk_cell b1 10).trans rfl, (blk_cell b1 11).trans rfl⟩

theorem MBox.two (a b : MsgV) (w : World) : MBox a w.heap.size ((w.alloc (.cells #[.int .i64 a.kind, .int .i64 a.src, .int .i64 a.dst, .int .u64 a.tnum, .int .i64 a.node, .int .u64 a.life, .int .i64 a.num, .int .i64 a.op, .string a.key, .string a.val, .bool a.has, .int .i64 a.code] 47)).alloc (.cells #[.int .i64 b.kind, .int .i64 b.src, .int .i64 b.dst, .int .u64 b.tnum, .int .i64 b.node, .int .u64 b.life, .int .i64 b.num, .int .i64 b.op, .string b.key, .string b.val, .bool b.has, .int .i64 b.code] 47)) ∧ MBox b (w.heap.size + 1) ((w.alloc (.cells #[.int .i64 a.kind, .int .i64 a.src, .int .i64 a.dst, .int .u64 a.tnum, .int .i64 a.node, .int .u64 a.life, .int .i64 a.num, .int .i64 a.op, .string a.key, .string a.val, .bool a.has, .int .i64 a.code] 47)).alloc (.cells #[.int .i64 b.kind, .int .i64 b.src, .int .i64 b.dst, .int .u64 b.tnum, .int .i64 b.node, .int .u64 b.life, .int .i64 b.num, .int .i64 b.op, .string b.key, .string b.val, .bool b.has, .int .i64 b.code] 47)) := by
  refine ⟨(MBox.new a w).below (below_alloc (Below.refl _ _) _), ?_⟩
  have := MBox.new b (w.alloc (.cells #[.int .i64 a.kind, .int .i64 a.src, .int .i64 a.dst, .int .u64 a.tnum, .int .i64 a.node, .int .u64 a.life, .int .i64 a.num, .int .i64 a.op, .string a.key, .string a.val, .bool a.has, .int .i64 a.code] 47))
  simpa using this

end Go.Proofs.Ytolcmjoapnldiaa.Msg
