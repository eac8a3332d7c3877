/- NumPuts: what is laid, in plain lists; two rows of bytes that grow beside each other; how an argument of transactions reads. Conditions as named. -/
import Derived.Test.YtolcmjoapnldiaaReads
import Derived.Test.YtolcmjoapnldiaaRdBack
import Derived.Test.YtolcmjoapnldiaaQ16
import Derived.Test.YtolcmjoapnldiaaOpen
namespace Go.Proofs.Ytolcmjoapnldiaa.NumPuts
open Go Go.RowKit Go.WideShapes Go.Proofs.Ytolcmjoapnldiaa.Q Go.Proofs.YtolcmjoapnldiaaW.PrintWords Go.Proofs.YtolcmjoapnldiaaW.PrintMore Go.Proofs.Ytolcmjoapnldiaa.Leb Go.Proofs.Ytolcmjoapnldiaa.Str Go.Proofs.Ytolcmjoapnldiaa.Num Go.Proofs.Ytolcmjoapnldiaa.Open
set_option linter.unusedVariables false
set_option linter.unusedSimpArgs false

def nB (l : List Int) : List Int := l.flatMap (fun n => leb n.toNat)
def sB (l : List ByteArray) : List Int := l.flatMap textN
def tN (t : Int × Int) : List Int := leb t.1.toNat ++ leb t.2.toNat
def tB (l : List (Int × Int)) : List Int := l.flatMap tN
section
variable {α : Type} (f : α → List Int)
theorem fm_take (l : List α) (k : Nat) (h : k < l.length) : (l.take (k + 1)).flatMap f = (l.take k).flatMap f ++ f l[k] := by
  rw [List.take_succ_eq_append_getElem h, List.flatMap_append]
  simp
theorem fm_drop (l : List α) (k : Nat) (h : k < l.length) : (l.drop k).flatMap f = f l[k] ++ (l.drop (k + 1)).flatMap f := by
  rw [List.drop_eq_getElem_cons h]
  rfl
theorem fm_len (m : Nat) (l : List α) (h : ∀ x ∈ l, (f x).length ≤ m) : (l.flatMap f).length ≤ m * l.length := by
  induction l with
  | nil => simp
  | cons x l ih =>
    have h1 := h x (List.mem_cons_self ..)
    have h2 := ih (fun y hy => h y (List.mem_cons_of_mem _ hy))
    rw [List.flatMap_cons, List.length_append, List.length_cons, Nat.mul_succ]
    omega
end
theorem put_f2 : ∀ (n : Nat) (k : Nat) (l : List Int), (leb n).length ≤ k → l.length + (leb n).length ≤ 140737488355328 → n < 18446744073709551616 → dockmasterlaw01_put.l0 k (n : Int) l = some (l ++ leb n) := by
  intro n
  induction n using Nat.strongRecOn with
  | _ n ih =>
    intro k l hk hl hn
    have hp := leb_pos n
    obtain ⟨k, rfl⟩ : ∃ m, k = m + 1 := ⟨k - 1, by omega⟩
    by_cases c : n < 128
    · simp only [dockmasterlaw01_put.l0]
      rw [if_neg (by omega)]
      rw [leb_lt c] at hl ⊢
      simp only [List.length_cons, List.length_nil] at hl
      rw [if_pos (by omega), Int.emod_eq_of_lt (by omega) (by omega)]
    · rw [leb_ge (by omega)] at hl hk ⊢
      simp only [List.length_cons] at hl hk
      simp only [dockmasterlaw01_put.l0]
      have e1 : IntKind.u64.wrap (Int.tdiv (n : Int) 128) = ((n / 128 : Nat) : Int) := by
        rw [Int.tdiv_eq_ediv_of_nonneg (by omega)]
        have : ((n : Nat) : Int) / 128 = ((n / 128 : Nat) : Int) := by omega
        rw [this]
        simp [IntKind.wrap, IntKind.bits, IntKind.signed]; omega
      have e2 : IntKind.u64.wrap (128 + Int.tmod (n : Int) 128) % 256 = ((n % 128 + 128 : Nat) : Int) := by
        rw [Int.tmod_eq_emod_of_nonneg (by omega)]
        have : (128 + ((n : Nat) : Int) % 128) = ((n % 128 + 128 : Nat) : Int) := by omega
        rw [this]
        simp [IntKind.wrap, IntKind.bits, IntKind.signed]; omega
      rw [if_pos (by omega), if_pos (by omega), e1, e2, ih (n / 128) (by omega) k (l ++ [((n % 128 + 128 : Nat) : Int)]) (by omega) (by simp; omega) (by omega)]
      simp
theorem put_eq (n : Nat) (h : n < 18446744073709551616) : dockmasterlaw01_put.f 10 (n : Int) = some (leb n) := by
  unfold dockmasterlaw01_put.f
  have := leb_ten h
  rw [put_f2 n 10 [] this (by simp; omega) h, List.nil_append]

/-- A text that was laid is read again. -/
theorem rtext_fwd (a : ByteArray) (t : List Int) (h : a.size ≤ 1000000) : num_Reader_Text.f ⟨textN a ++ t, 0⟩ (a.size : Int) = some (a, ⟨t, 0⟩) := by
  unfold num_Reader_Text.f rtext textN
  rw [if_pos ⟨by omega, by omega⟩, List.append_assoc]
  have hmm : (if 0 < (a.size : Int) then (a.size : Int) else 0) = (a.size : Int) := by split <;> omega
  rw [hmm, rnum_fwd a.size _ (by omega) (by omega)]
  simp only [if_true]
  rw [if_neg (by simp [length_bytes]; omega)]
  rw [show ((a.size : Nat) : Int).toNat = (bytesOf a).length by rw [length_bytes]; omega, List.take_left, List.drop_left, str_bytesOf]
theorem rtid_fwd (m n : Int) (t : List Int) (h0 : 0 ≤ m) (h1 : m ≤ 1099511627776) (h2 : 0 ≤ n) (h3 : n < 64) : num_Reader_Tid.f ⟨tN (m, n) ++ t, 0⟩ = some (m, n, ⟨t, 0⟩) := by
  obtain ⟨a, rfl⟩ := Int.eq_ofNat_of_zero_le h0
  obtain ⟨b, rfl⟩ := Int.eq_ofNat_of_zero_le h2
  unfold num_Reader_Tid.f num_Reader_Num.f num_Reader_Err.f tN
  rw [List.append_assoc]
  simp only [Option.bind_some, Int.toNat_natCast]
  rw [rnum_fwd a _ (by omega) (by omega)]
  simp only []
  rw [rnum_fwd b _ (by omega) (by omega)]
  have : wrap64 ((b : Nat) : Int) = ((b : Nat) : Int) := by unfold wrap64; omega
  simp [this]
theorem byt_fm {α : Type} (f : α → List Int) (l : List α) (h : ∀ x ∈ l, Byt (f x)) : Byt (l.flatMap f) := fun y hy => by
  obtain ⟨x, hx, hy⟩ := List.mem_flatMap.1 hy
  exact h x hx y hy
theorem byt_leb (n : Nat) : Byt (leb n) := leb_byte n
theorem byt_L (ns : List Int) (ss : List ByteArray) (ts : List (Int × Int)) : Byt (nB ns ++ sB ss ++ tB ts) :=
  Byt.append (Byt.append (byt_fm _ _ (fun x _ => byt_leb _)) (byt_fm _ _ (fun x _ => Byt.append (byt_leb _) (byt_str x)))) (byt_fm _ _ (fun x _ => Byt.append (byt_leb _) (byt_leb _)))
theorem read_f {l : List Int} (h : Byt l) : num_Read.f l = some ⟨l, 0⟩ := by
  unfold num_Read.f
  rw [if_pos (by unfold bytB; rw [List.all_eq_true]; intro x hx; have := h x hx; simp; omega)]
/-! Two rows of bytes. -/
theorem R_ok {α : Type} {enc : α → Value} {h1 : ∀ x, (enc x).oneCell' = true} {e : Nat} {w : World} {base : Nat} {ok ok' : Nat → Prop} {v : Value} {xs : List α} (h : (Kd.scalar enc h1).R e w base ok v xs) (hok : ∀ k, v.ownBlock = some k → ok' k) : (Kd.scalar enc h1).R e w base ok' v xs := Kd.R_of_own (Kd.own_of_R h) hok
structure Rows2 (w0 w : World) (v7 v8 : Value) (l7 l8 : List Int) : Prop where
  B : Below w0.heap.size w0 w
  r7 : (Kd.int .u8).R 5 w w0.heap.size (fun _ => True) v7 l7
  r8 : (Kd.int .u8).R 5 w w0.heap.size (fun _ => True) v8 l8
  ne : ∀ k, v7.ownBlock = some k → v8.ownBlock ≠ some k
section
variable {w0 w W : World} {v7 v8 : Value} {l7 l8 : List Int}
theorem Rows2.below (h : Rows2 w0 w v7 v8 l7 l8) (hb : Below w.heap.size w W) : Rows2 w0 W v7 v8 l7 l8 := ⟨h.B.trans (hb.mono h.B.size), Kd.R_below h.r7 hb, Kd.R_below h.r8 hb, h.ne⟩
theorem Rows2.laid {v' : Value} {l : List Int} (h : Rows2 w0 w v7 v8 l7 l8) (hR : Kd.R (Kd.int .u8) 5 W w0.heap.size (fun k => (v7.ownBlock = some k ∨ w.heap.size ≤ k)) v' l) (hB : Below w0.heap.size w0 W) (hk : Go.Proofs.YtolcmjoapnldiaaW.PrintWords.Kept w W (fun k => v7.ownBlock = some k)) : Rows2 w0 W v' v8 l l8 where
  B := hB
  r7 := R_ok hR (fun _ _ => trivial)
  r8 := R_ok (Kd.R_step (R_ok h.r8 (ok' := fun k => v8.ownBlock = some k) (fun k hk => hk)) (fun k hq hlt => hk.2 k hlt (fun h7 => h.ne k h7 hq))) (fun _ _ => trivial)
  ne := fun k h1 h2 => (hR.1 k h1).elim (fun h3 => h.ne k h3 h2) (fun h3 => by have := Kd.R_lt h.r8 k h2; omega)
theorem put7 (h : Rows2 w0 w v7 v8 l7 l8) (n : Int) (h0 : 0 ≤ n) (h1 : n ≤ 18446744073709551615) (hl : l7.length ≤ 1000000) : Calls Try.prog 16 #[v7, .int .u64 n] w fun e w' => ∃ v', e = .returned v' ∧ Rows2 w0 w' v' v8 (l7 ++ leb n.toNat) l8 := by
  obtain ⟨m, rfl⟩ := Int.eq_ofNat_of_zero_le h0
  have h10 := leb_ten (n := m) (by omega)
  refine (num_Put.calls 10 (fun k => v7.ownBlock = some k) v7 l7 (m : Int) (l7 ++ leb m) w0 w h.B (R_ok h.r7 (fun _ hk => hk)) (put_l m 10 l7 (by omega) (by omega) (by omega))).mono ?_
  rintro e w' ⟨v', rfl, hR, hB, hk⟩
  exact ⟨v', rfl, h.laid hR hB hk⟩
theorem text7 (h : Rows2 w0 w v7 v8 l7 l8) (s : ByteArray) (hs : s.size ≤ 1000000) (hl : l7.length ≤ 1000000) : Calls Try.prog 18 #[v7, .string s] w fun e w' => ∃ v', e = .returned v' ∧ Rows2 w0 w' v' v8 (l7 ++ textN s) l8 := by
  refine (num_Text.calls 10 (fun k => v7.ownBlock = some k) v7 l7 s (l7 ++ textN s) w0 w h.B (R_ok h.r7 (fun _ hk => hk)) (text_l 10 l7 s (by omega) (by omega) (by omega))).mono ?_
  rintro e w' ⟨v', rfl, hR, hB, hk⟩
  exact ⟨v', rfl, h.laid hR hB hk⟩
theorem tid7 (h : Rows2 w0 w v7 v8 l7 l8) (m n : Int) (h0 : 0 ≤ m) (h1 : m ≤ 1099511627776) (h2 : 0 ≤ n) (h3 : n < 64) (hl : l7.length ≤ 1000000) : Calls Try.prog 19 #[v7, .agg #[.int .u64 m, .int .i64 n]] w fun e w' => ∃ v', e = .returned v' ∧ Rows2 w0 w' v' v8 (l7 ++ tN (m, n)) l8 ∧ ∀ b, b < w.heap.size → v7.ownBlock ≠ some b → w'.heap[b]? = w.heap[b]? := by
  have e : tidN m n = tN (m, n) := by
    unfold tidN tN
    have : IntKind.u64.wrap n = n := by simp [IntKind.wrap, IntKind.bits, IntKind.signed]; omega
    rw [this]
  refine (num_Tid.calls 10 (fun k => v7.ownBlock = some k) v7 l7 m n (l7 ++ tN (m, n)) w0 w h.B (R_ok h.r7 (fun _ hk => hk)) (by rw [← e]; exact tid_l 10 l7 m n h0 (by omega) (by omega) (by omega))).mono ?_
  rintro e w' ⟨v', rfl, hR, hB, hk⟩
  exact ⟨v', rfl, h.laid hR hB hk, fun b h1 h2 => hk.2 b h1 h2⟩
theorem putc (w : World) (n : Int) (h0 : 0 ≤ n) (h1 : n ≤ 18446744073709551615) : Calls Try.prog 30 #[.int .u64 n] w fun e w' => ∃ A c, e = .returned (.slice A (leb n.toNat).length c) ∧ (leb n.toNat).length ≤ c ∧ Kd.C (Kd.int .u8) w' A (leb n.toNat).length (leb n.toNat) ∧ Below w.heap.size w w' := by
  obtain ⟨m, rfl⟩ := Int.eq_ofNat_of_zero_le h0
  refine (dockmasterlaw01_put.calls 10 (m : Int) (leb m) w (put_eq m (by omega))).mono ?_
  rintro e w' ⟨v, rfl, hR, hB⟩
  obtain ⟨A, c, rfl, hc, hC⟩ := Kd.R_reads hR
  exact ⟨A, c, rfl, hc, hC, hB⟩
/-- The other row grows. -/
theorem Rows2.grown {v1 : Value} {l : List Int} (h : Rows2 w0 w v7 v8 l7 l8) (hR : (Kd.int .u8).R 5 W w0.heap.size (fun _ => True) v1 l) (hB : Below w0.heap.size w0 W) (hg : w.grownBy W v8.ownBlock) (hat : v1.ownBlock = v8.ownBlock ∨ ∃ b, v1.ownBlock = some b ∧ w.heap.size ≤ b) : Rows2 w0 W v7 v1 l7 l where
  B := hB
  r7 := R_ok (Kd.R_grown (R_ok h.r7 (ok' := fun k => v7.ownBlock = some k) (fun k hk => hk)) hg (fun k hk he => h.ne k hk he.symm)) (fun _ _ => trivial)
  r8 := hR
  ne := fun k h1 h2 => by
    rcases hat with h3 | ⟨b, h3, h4⟩
    · exact h.ne k h1 (h3.symm.trans h2)
    · rw [h3] at h2
      injection h2 with h2
      have := Kd.R_lt h.r7 k h1
      omega
theorem empty_R2 (w : World) : Rows2 w0 w v7 v8 l7 l8 → True := fun _ => trivial
end
theorem lit_R {α : Type} {enc : α → Value} {h1 : ∀ x, (enc x).oneCell' = true} {base : Nat} {e : TypeId} (W : World) (hb : base ≤ W.heap.size) : (Kd.scalar enc h1).R e (W.alloc (.cells #[] e)) base (fun _ => True) (.slice (some ⟨W.heap.size, 0, none⟩) 0 0) [] :=
  Kd.R_of_own (h1 := h1) (own_lit_of (enc := enc) W base e ([] : List α) hb (by simp)) (fun _ _ => trivial)
theorem two_begin {w0 w : World} (hB : Below w0.heap.size w0 w) : Rows2 w0 ((w.alloc (.cells #[] 5)).alloc (.cells #[] 5)) (.slice (some ⟨w.heap.size, 0, none⟩) 0 0) (.slice (some ⟨w.heap.size + 1, 0, none⟩) 0 0) [] [] where
  B := (hB.trans ((below_alloc (Below.refl _ _) _).mono hB.size)).trans ((below_alloc (Below.refl _ _) _).mono (Nat.le_trans hB.size (below_alloc (Below.refl w.heap.size w) _).size))
  r7 := Kd.R_below (lit_R (enc := Value.int .u8) w hB.size) (below_alloc (Below.refl _ _) _)
  r8 := by
    have := lit_R (enc := Value.int .u8) (h1 := fun _ => rfl) (base := w0.heap.size) (e := 5) (w.alloc (.cells #[] 5)) (Nat.le_trans hB.size (below_alloc (Below.refl w.heap.size w) _).size)
    rw [show (w.alloc (.cells #[] 5)).heap.size = w.heap.size + 1 by simp] at this
    exact this
  ne := fun k h1 h2 => by simp [Value.ownBlock] at h1 h2; omega

/-! An argument of transactions. -/
def kTid : Kd (Int × Int) := Kd.pair (Kd.int .u64) (Kd.int .i64)
def TidOk (t : Int × Int) : Prop := (Lit.int .u64 t.1).wf = true ∧ (Lit.int .i64 t.2).wf = true
def TidIn (t : Int × Int) : Prop := 0 ≤ t.1 ∧ t.1 ≤ 1099511627776 ∧ 0 ≤ t.2 ∧ t.2 < 64
theorem putc2 (w : World) (n : Int) (h0 : 0 ≤ n) (h1 : n ≤ 18446744073709551615) (wa : World) (hs : wa.heap.size ≤ w.heap.size) : Calls Try.prog 30 #[.int .u64 n] w fun e w' => ∃ A c, e = .returned (.slice A (leb n.toNat).length c) ∧ (Kd.int .u8).R 5 w' wa.heap.size (fun _ => True) (.slice A (leb n.toNat).length c) (leb n.toNat) ∧ Below w.heap.size w w' ∧ ∀ k, (Value.slice A (leb n.toNat).length c).ownBlock = some k → w.heap.size ≤ k := by
  obtain ⟨m, rfl⟩ := Int.eq_ofNat_of_zero_le h0
  refine (dockmasterlaw01_put.calls 10 (m : Int) (leb m) w (put_eq m (by omega))).mono ?_
  rintro e w' ⟨v, rfl, hR, hB⟩
  obtain ⟨A, c, rfl, _, _⟩ := Kd.R_reads hR
  exact ⟨A, c, rfl, Kd.R_lower hR hs, hB, fun k hk => Kd.R_base hR k hk⟩
theorem tid_at {w : World} {A : Option Addr} {l : List (Int × Int)} (h : Kd.C kTid w A l.length l) (k : Nat) (hk : k < l.length) : ∃ ad, A = some ad ∧ w.cell? (ad.add (k * 2)) = some (.int .u64 l[k].1) ∧ w.cell? ⟨(ad.add (k * 2)).block, (ad.add (k * 2)).off + 1, none⟩ = some (.int .i64 l[k].2) := by
  obtain ⟨ad, c, hA, _, hK, hc⟩ := Kd.C_get h (0, 0) (k : Int) (by omega) (by omega)
  rw [Int.toNat_natCast] at hK hc
  have e : l.getD k (0, 0) = l[k] := by simp [List.getD_eq_getElem?_getD, List.getElem?_eq_getElem hk]
  rw [e] at hK
  obtain ⟨c0, c1, rfl, h0, h1⟩ := hK
  replace h0 : c0 = [.int .u64 l[k].1] := h0
  replace h1 : c1 = [.int .i64 l[k].2] := h1
  subst h0 h1
  exact ⟨ad, hA, hc 0 _ rfl, by rw [← add_field _ _ 1 (by decide)]; exact hc 1 _ rfl⟩
theorem list2 : ∀ cs : List Value, cs.length = 2 → ∃ x0 x1, cs = [x0, x1]
  | [x0, x1], _ => ⟨x0, x1, rfl⟩
section
variable {H : Type} {enc : TypeId × Value → H} {w : World} {base : Nat} {spare : Nat → Bool} {held : Bool}
theorem opn_tid : Opn enc Try.prog w base spare held 28 kTid TidOk := by
  intro fuel cs D p h
  obtain ⟨hl, n, hF⟩ := trod_fields Try.underlying28 h
  have hl5 : cs.length = 2 := hl.trans (by kernel_rfl)
  obtain ⟨x0, x1, rfl⟩ := list2 cs hl5
  have z1 : Try.prog.cellsOf 22 = 1 := by kernel_rfl
  have z2 : Try.prog.cellsOf 3 = 1 := by kernel_rfl
  obtain ⟨y0, q0⟩ := hF 0 _ rfl
  obtain ⟨y1, q1⟩ := hF 1 _ rfl
  replace q0 : DataW.trod enc Try.prog w base spare held n 22 [x0] = some y0 := by simpa [z1] using q0
  replace q1 : DataW.trod enc Try.prog w base spare held n 3 [x1] = some y1 := by simpa [z2] using q1
  obtain ⟨a0, k0, b0⟩ := opn_int Try.underlying22 _ _ _ _ q0
  obtain ⟨a1, k1, b1⟩ := opn_int Try.underlying3 _ _ _ _ q1
  exact ⟨(a0, a1), ⟨[x0], [x1], rfl, k0, k1⟩, b0, b1⟩
end
theorem up_cell {w W : World} {p : Addr} {v : Value} (hb : Below w.heap.size w W) (h : w.cell? p = some v) : W.cell? p = some v := (hb.cell (World.block_lt_of_cell? _ _ h)).trans h
end Go.Proofs.Ytolcmjoapnldiaa.NumPuts
