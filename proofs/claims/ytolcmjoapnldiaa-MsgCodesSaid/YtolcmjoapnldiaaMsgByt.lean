/- What the law's own bytes are, as a plain function: a right message's bytes. No conditions beyond the fields' bounds. -/
import Derived.Test.YtolcmjoapnldiaaM7
import Derived.Test.YtolcmjoapnldiaaMsgDec
import Derived.Test.YtolcmjoapnldiaaMsg
namespace Go.Proofs.Ytolcmjoapnldiaa.Msg
open Go Go.RowKit Go.Proofs.Ytolcmjoapnldiaa.Q Go.Proofs.YtolcmjoapnldiaaW.PrintWords Go.Proofs.YtolcmjoapnldiaaW.PrintLast Go.Proofs.Ytolcmjoapnldiaa.Leb Go.Proofs.Ytolcmjoapnldiaa.Str
set_option linter.unusedVariables false
set_option linter.unusedSimpArgs false

theorem byts_f (k : Nat) (m : MsgV) (hw : Wf m) (h : rightM m = true) : dockmasterlaw15_bytes.f (k + 12) m.kind m.src m.dst m.tnum m.node m.life m.num m.op m.key m.val m.has m.code = some (encM m) := by
  have ha := rt_of m h
  obtain ⟨kind, src, dst, tnum, node, life, num, op, key, val, has, code⟩ := m
  obtain ⟨a1, a2, a3, a4, a5, a6, a7, a8, a9, a10, a11, a12, a13, a14, a15, a16⟩ := ha
  obtain ⟨w1, w2, w3, w4⟩ := hw
  dsimp only at *
  obtain ⟨kind, rfl⟩ := Int.eq_ofNat_of_zero_le (show 0 ≤ kind by omega)
  obtain ⟨src, rfl⟩ := Int.eq_ofNat_of_zero_le a2.1
  obtain ⟨dst, rfl⟩ := Int.eq_ofNat_of_zero_le a3.1
  obtain ⟨node, rfl⟩ := Int.eq_ofNat_of_zero_le a4.1
  obtain ⟨tnum, rfl⟩ := Int.eq_ofNat_of_zero_le w1.1
  obtain ⟨life, rfl⟩ := Int.eq_ofNat_of_zero_le w2.1
  obtain ⟨num, rfl⟩ := Int.eq_ofNat_of_zero_le a7.1
  obtain ⟨code, rfl⟩ := Int.eq_ofNat_of_zero_le a16.1
  have l3 := leb_ten (n := node) (by omega)
  have l4 := leb_ten (n := tnum) (by omega)
  have l5 := leb_ten (n := life) (by omega)
  have l6 := leb_ten (n := num) (by omega)
  have l9 := leb_ten (n := key.size) (by omega)
  have l10 := leb_ten (n := val.size) (by omega)
  have lk := length_bytes key
  have lv := length_bytes val
  have e1 : (kind : Int) % 256 = kind := by omega
  have e2 : (src : Int) % 256 = src := by omega
  have e3 : (dst : Int) % 256 = dst := by omega
  have e4 : (code : Int) % 256 = code := by omega
  have b1 := leb_lt (n := kind) (by omega)
  have b2 := leb_lt (n := src) (by omega)
  have b3 := leb_lt (n := dst) (by omega)
  have b4 := leb_lt (n := code) (by omega)
  unfold dockmasterlaw15_bytes.f
  rw [tid_l _ _ tnum node (by omega) (by omega) (by omega) (by simp), Option.bind_some, e1, e2, e3]
  obtain ⟨hb, hhb⟩ : ∃ x : Nat, x = (if has = true then 1 else 0) := ⟨_, rfl⟩
  have hb1 : hb < 128 := by rw [hhb]; split <;> omega
  have hJ : (if has = true then dockmasterlaw15_bytes.j0 (k + 12) ([(kind : Int), src, dst] ++ (leb tnum ++ leb node)) 1 kind src dst tnum node life num op key val has code else dockmasterlaw15_bytes.j0 (k + 12) ([(kind : Int), src, dst] ++ (leb tnum ++ leb node)) 0 kind src dst tnum node life num op key val has code) = dockmasterlaw15_bytes.j0 (k + 12) ([(kind : Int), src, dst] ++ (leb tnum ++ leb node)) (hb : Int) kind src dst tnum node life num op key val has code := by
    rw [hhb]
    split <;> rfl
  rw [hJ]
  clear hJ
  have hL : ([(kind : Int), src, dst] ++ (leb tnum ++ leb node)).length ≤ 23 := by simp; omega
  have hE : ∀ r, leb kind ++ (leb src ++ (leb dst ++ (leb tnum ++ (leb node ++ r)))) = [(kind : Int), src, dst] ++ (leb tnum ++ leb node) ++ r := by
    intro r
    rw [b1, b2, b3]
    simp
  have hEm : encM ⟨kind, src, dst, tnum, node, life, num, op, key, val, has, code⟩ = [(kind : Int), src, dst] ++ (leb tnum ++ leb node) ++ restM ⟨kind, src, dst, tnum, node, life, num, op, key, val, has, code⟩ := by
    unfold encM
    simp only [Int.toNat_natCast]
    exact hE _
  rw [hEm]
  generalize [(kind : Int), src, dst] ++ (leb tnum ++ leb node) = L at hL ⊢
  clear hE hEm
  simp only [dockmasterlaw15_bytes.j0]
  rcases kinds (kind : Int) with hk | hk | hk | hk | hk | ⟨h2, h3, h4, h5, h6⟩
  · rw [if_pos hk, put_l life _ _ (by omega) (by omega) (by omega), Option.bind_some]
    simp [restM, hk]
  · obtain ⟨o1, o2, o3⟩ := a10 (by rw [hk]; rfl)
    obtain ⟨op, rfl⟩ := Int.eq_ofNat_of_zero_le (show 0 ≤ op by omega)
    have b5 := leb_lt (n := op) (by omega)
    have e5 : (op : Int) % 256 = op := by omega
    rw [if_neg (by omega), if_pos hk, put_l life _ _ (by omega) (by omega) (by omega), Option.bind_some, wrap_nat num (by omega), put_l num _ _ (by omega) (by omega) (by simp; omega), Option.bind_some, if_pos (by simp; omega), e5, text_l _ _ key (by omega) (by omega) (by simp; omega), Option.bind_some, text_l _ _ val (by omega) (by omega) (by simp; omega), Option.bind_some]
    simp [restM, hk, textL, b5]
  · rw [if_neg (by omega), if_neg (by omega), if_pos hk, wrap_nat num (by omega), put_l num _ _ (by omega) (by omega) (by omega), Option.bind_some, Option.bind_some, if_pos (by simp; omega), e4, text_l _ _ val (by omega) (by omega) (by simp; omega), Option.bind_some]
    simp [restM, hk, textL, b4, ← hhb, leb_lt hb1]
  · rw [if_neg (by omega), if_neg (by omega), if_neg (by omega), if_pos hk, put_l life _ _ (by omega) (by omega) (by omega), Option.bind_some, wrap_nat num (by omega), put_l num _ _ (by omega) (by omega) (by simp; omega), Option.bind_some]
    simp [restM, hk]
  · rw [if_neg (by omega), if_neg (by omega), if_neg (by omega), if_neg (by omega), if_pos hk, if_pos (by omega), e4]
    simp [restM, hk, b4]
  · have n2 : ¬ (kind : Int) = 2 := by simpa using h2
    have n3 : ¬ (kind : Int) = 3 := by simpa using h3
    have n4 : ¬ (kind : Int) = 4 := by simpa using h4
    have n5 : ¬ (kind : Int) = 5 := by simpa using h5
    have n6 : ¬ (kind : Int) = 6 := by simpa using h6
    rw [if_neg n2, if_neg n3, if_neg n4, if_neg n5, if_neg n6]
    unfold restM
    dsimp only
    rw [if_neg n2, if_neg n3, if_neg n4, if_neg n5, if_neg n6]
    simp

theorem byts_ok (m : MsgV) (hw : Wf m) (h : rightM m = true) (w : World) :
    Calls Try.prog 34 #[m.lay] w fun e w' => ∃ A c, e = .returned (.slice A (encM m).length c) ∧ Cs w' A c (encM m) ∧ Below w.heap.size w w' := by
  refine (dockmasterlaw15_bytes.calls 12 m.kind m.src m.dst m.tnum m.node m.life m.num m.op m.key m.val m.has m.code (encM m) w (byts_f 0 m hw h)).mono ?_
  rintro e w' ⟨v0, rfl, hR, hB⟩
  obtain ⟨A, c, rfl, hs⟩ := cs_of hR
  exact ⟨A, c, rfl, hs, hB⟩

/-- A right message's bytes are read as it. -/
theorem dec_ok (m : MsgV) (hw : Wf m) (h : rightM m = true) (A : Option Addr) (c : Nat) (w : World) (hs : Cs w A c (encM m)) :
    Calls Try.prog 33 #[.slice A (encM m).length c] w fun e w' => e = .returned (.tuple #[m.lay, .int .i64 0]) ∧ Below w.heap.size w w' :=
  msg_Decode.calls 5 A c (encM m) m.kind m.src m.dst m.tnum m.node m.life m.num m.op m.key m.val m.has m.code 0 w hs.C hs.le (dec_fwd 0 m hw h)

/-- Whatever bytes: the right message of which they are the bytes, or none. -/
theorem dec_any (l : List Int) (hy : Byt l) :
    ∃ m f, ((f = 0 ∧ rightM m = true ∧ Wf m ∧ encM m = l) ∨ (f = 11 ∧ m = zeroM)) ∧ ∀ (A : Option Addr) (c : Nat) (w : World), Cs w A c l → Calls Try.prog 33 #[.slice A l.length c] w fun e w' => e = .returned (.tuple #[m.lay, .int .i64 f]) ∧ Below w.heap.size w w' := by
  obtain ⟨m, f, he, hd⟩ := dec_back 0 l hy
  exact ⟨m, f, hd, fun A c w hs => msg_Decode.calls 5 A c l m.kind m.src m.dst m.tnum m.node m.life m.num m.op m.key m.val m.has m.code f w hs.C hs.le he⟩

/-- Bytes that are no right message's. -/
theorem dec_none (l : List Int) (hy : Byt l) (hn : ∀ m, rightM m = true → Wf m → encM m ≠ l) (A : Option Addr) (c : Nat) (w : World) (hs : Cs w A c l) :
    Calls Try.prog 33 #[.slice A l.length c] w fun e w' => e = .returned (.tuple #[zeroM.lay, .int .i64 11]) ∧ Below w.heap.size w w' := by
  obtain ⟨m, f, h, hd⟩ := dec_any l hy
  rcases h with ⟨_, h1, h2, h3⟩ | ⟨rfl, rfl⟩
  · exact absurd h3 (hn m h1 h2)
  · exact hd A c w hs

end Go.Proofs.Ytolcmjoapnldiaa.Msg
