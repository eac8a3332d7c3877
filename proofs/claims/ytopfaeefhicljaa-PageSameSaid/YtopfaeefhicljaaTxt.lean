/- Texts and numbers as they are laid and read, in the print's form. Conditions: the numbers' bounds, lengths within memory. -/
import Derived.Test.YtopfaeefhicljaaP4
import Derived.Test.YtopfaeefhicljaaLeb
import Derived.Test.YtopfaeefhicljaaStr
import Derived.Test.YtopfaeefhicljaaRdBack
namespace Go.Proofs.Ytopfaeefhicljaa.Q
open Go Go.RowKit Go.Proofs.YtopfaeefhicljaaW.PrintWords Go.Proofs.Ytopfaeefhicljaa.Leb Go.Proofs.Ytopfaeefhicljaa.Str
set_option linter.unusedVariables false
set_option linter.unusedSimpArgs false

/-- What the printed Put tells: with rounds enough it lays leb behind what was there. -/
theorem put_l0 : ∀ (n : Nat) (k : Nat) (l : List Int), (leb n).length ≤ k → l.length + (leb n).length ≤ 140737488355328 → num_Put.l0 k l (n : Int) = some (l ++ leb n) := by
  intro n
  induction n using Nat.strongRecOn with
  | _ n ih =>
    intro k l hk hl
    have hp := leb_pos n
    obtain ⟨k, rfl⟩ : ∃ m, k = m + 1 := ⟨k - 1, by omega⟩
    by_cases c : n < 128
    · simp only [num_Put.l0]
      rw [if_neg (by omega)]
      rw [leb_lt c] at hl ⊢
      simp only [List.length_cons, List.length_nil] at hl
      rw [if_pos (by omega), Int.emod_eq_of_lt (by omega) (by omega)]
    · rw [leb_ge (by omega)] at hl hk ⊢
      simp only [List.length_cons] at hl hk
      simp only [num_Put.l0]
      rw [if_pos (by omega), if_pos (by omega), or128_leb, show ((n : Nat) : Int) / 128 = ((n / 128 : Nat) : Int) by omega]
      rw [ih (n / 128) (by omega) k (l ++ [((n % 128 + 128 : Nat) : Int)]) (by omega) (by simp; omega)]
      simp
theorem put_l (n k : Nat) (l : List Int) (h : n < 18446744073709551616) (hk : 10 ≤ k) (hl : l.length ≤ 140737488355000) : num_Put.f k l (n : Int) = some (l ++ leb n) := by
  have := leb_ten h
  unfold num_Put.f
  exact put_l0 n k l (by omega) (by omega)

theorem text_l (k : Nat) (l : List Int) (s : ByteArray) (hs : s.size < 140737488350000) (hk : 10 ≤ k) (hl : l.length + s.size ≤ 140737488355000) : num_Text.f k l s = some (l ++ (leb s.size ++ bytesOf s)) := by
  have h10 := leb_ten (n := s.size) (by omega)
  unfold num_Text.f
  have w : IntKind.u64.wrap ((s.size : Int)) = ((s.size : Nat) : Int) := by simp [IntKind.wrap, IntKind.bits, IntKind.signed]; omega
  rw [w, put_l s.size k l (by omega) hk (by omega)]
  simp only [Option.bind_some]
  rw [if_pos (by simp; omega), List.append_assoc]

theorem wrap_nat (n : Nat) (h : n < 18446744073709551616) : IntKind.u64.wrap (n : Int) = (n : Int) := by
  simp [IntKind.wrap, IntKind.bits, IntKind.signed]; omega

theorem wrap64_nat (n : Nat) (h : n < 9223372036854775808) : wrap64 (n : Int) = (n : Int) := by
  simp [wrap64]; omega

def textL (s : ByteArray) (t : List Int) : List Int := leb s.size ++ (bytesOf s ++ t)

theorem textL_inj {a b : ByteArray} {s t : List Int} (h : textL a s = textL b t) : a = b ∧ s = t := by
  obtain ⟨h1, h2⟩ := leb_inj _ _ _ _ h
  have := List.append_inj h2 (by rw [length_bytes, length_bytes, h1])
  exact ⟨inj this.1, this.2⟩

theorem textL_len (a : ByteArray) (t : List Int) (k : Nat) (h : a.size < 128) : (textL a t).length = 1 + a.size + t.length := by
  unfold textL
  rw [leb_lt h]
  simp [length_bytes]
  omega

theorem textL_app (a : ByteArray) (s t : List Int) : textL a s ++ t = textL a (s ++ t) := by simp [textL]

theorem byt_text {a : ByteArray} {t : List Int} (h : Byt t) : Byt (textL a t) := Byt.append (fun x hx => by have := leb_byte _ x hx; omega) (Byt.append (byt_str a) h)

theorem byt_leb {n : Nat} {t : List Int} (h : Byt t) : Byt (leb n ++ t) := Byt.append (fun x hx => by have := leb_byte _ x hx; omega) h

theorem bytB_of {l : List Int} (h : Byt l) : bytB l = true := by
  unfold bytB
  rw [List.all_eq_true]
  intro x hx
  have := h x hx
  simp
  omega

theorem text24 (s : RdS) : num_Reader_Text.f s 24 = some (rtext s 24) := by unfold num_Reader_Text.f; rw [if_pos (by decide)]
theorem text48 (s : RdS) : num_Reader_Text.f s 48 = some (rtext s 48) := by unfold num_Reader_Text.f; rw [if_pos (by decide)]

theorem rtext_fwd (a : ByteArray) (t : List Int) {most : Int} (h : (a.size : Int) ≤ most) (h2 : most ≤ 9223372036854775807) : num_Reader_Text.f ⟨textL a t, 0⟩ most = some (a, ⟨t, 0⟩) := by
  have hp : 0 ≤ (a.size : Int) := by omega
  unfold num_Reader_Text.f rtext textL
  rw [if_pos ⟨by omega, h2⟩]
  by_cases hm : 0 < most
  · rw [if_pos hm, rnum_fwd a.size _ (by omega) h]
    simp only [if_true]
    rw [if_neg (by simp [length_bytes]; omega)]
    rw [show ((a.size : Nat) : Int).toNat = (bytesOf a).length by rw [length_bytes]; omega, List.take_left, List.drop_left, str_bytesOf]
  · have hz : a.size = 0 := by omega
    rw [if_neg hm, rnum_fwd a.size _ (by omega) (by omega)]
    simp only [if_true]
    rw [if_neg (by simp [length_bytes]; omega)]
    rw [show ((a.size : Nat) : Int).toNat = (bytesOf a).length by rw [length_bytes]; omega, List.take_left, List.drop_left, str_bytesOf]

theorem rtext_back {s : RdS} {most : Int} (h0 : 0 ≤ most) (hb : Byt s.b) (h : (rtext s most).2.e = 0) : ∃ a : ByteArray, s = ⟨textL a (rtext s most).2.b, 0⟩ ∧ (rtext s most).1 = a ∧ (a.size : Int) ≤ most := by
  have hmm : (if 0 < most then most else 0) = most := by split <;> omega
  unfold rtext at h ⊢
  simp only [hmm] at h ⊢
  by_cases he : (rnum s most).2.e = 0
  · rw [if_pos he] at h ⊢
    obtain ⟨n, h1, h2, h3⟩ := rnum_back hb he
    by_cases hl : ((rnum s most).2.b.length : Int) < (rnum s most).1
    · rw [if_pos hl] at h
      exact absurd h (by simp)
    · rw [if_neg hl]
      rw [h2] at hl ⊢
      have hby : Byt (rnum s most).2.b := by rw [h1] at hb; exact hb.right
      have hsz : (strOfNums (List.take n (rnum s most).2.b)).size = n := by rw [size_str, List.length_take]; omega
      refine ⟨strOfNums ((rnum s most).2.b.take n), ?_, rfl, by rw [hsz]; omega⟩
      unfold textL
      rw [hsz, back (hby.take _)]
      conv => lhs; rw [h1]
      congr 2
      exact (List.take_append_drop _ _).symm
  · rw [if_neg he] at h
    exact absurd h he

theorem rtext_e {s : RdS} {most : Int} (h : s.e ≠ 0) : (rtext s most).2.e ≠ 0 := by
  unfold rtext
  rw [rnum_e h]
  simp only
  rw [if_neg h]
  exact h

theorem rtext_e' {s : RdS} {most : Int} (h : (rtext s most).2.e = 0) : s.e = 0 := by
  by_cases c : s.e = 0
  · exact c
  · exact absurd h (rtext_e c)

theorem rnum_e' {s : RdS} {most : Int} (h : (rnum s most).2.e = 0) : s.e = 0 := by
  by_cases c : s.e = 0
  · exact c
  · rw [rnum_e c] at h
    exact absurd h c

theorem rnum_by {s : RdS} {most : Int} (hb : Byt s.b) (h : (rnum s most).2.e = 0) : Byt (rnum s most).2.b := by
  obtain ⟨n, h1, _⟩ := rnum_back hb h
  rw [h1] at hb
  exact hb.right

theorem rgo_le {most : Int} (h0 : 0 ≤ most) : ∀ (l : List Int) (j : Nat) (acc : Int), (rgo most j acc l).1 ≤ most
  | [], j, acc => by rw [rgo_short]; exact h0
  | x :: t, j, acc => by
    by_cases hbad : (j = 9 ∧ 1 < x) ∨ (0 < j ∧ x = 0)
    · rw [rgo_bad hbad]; exact h0
    · by_cases hc : 128 ≤ x
      · rw [rgo_more hbad hc]
        exact rgo_le h0 t _ _
      · by_cases hm : most < acc + x % 128 * 128 ^ j
        · rw [rgo_many hbad (by omega) hm]; exact h0
        · rw [rgo_done hbad (by omega) hm]
          simp only
          omega

theorem rnum_le {s : RdS} {m : Int} (h0 : 0 ≤ m) : (rnum s m).1 ≤ m := by
  unfold rnum
  split
  · exact rgo_le h0 _ _ _
  · exact h0

theorem rtext_size {s : RdS} {most : Int} (h0 : 0 ≤ most) : ((rtext s most).1.size : Int) ≤ most := by
  have hmm : (if 0 < most then most else 0) = most := by split <;> omega
  have := rnum_le (s := s) h0
  unfold rtext
  simp only [hmm]
  split
  · split
    · exact h0
    · rw [size_str, List.length_take]
      omega
  · exact h0

end Go.Proofs.Ytopfaeefhicljaa.Q
