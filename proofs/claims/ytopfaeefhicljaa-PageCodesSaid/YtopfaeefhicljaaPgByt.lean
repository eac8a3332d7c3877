/- The law's own bytes of a page: what Encode lays. Conditions: a right page, its entry's number within its kind's bounds. -/
import Derived.Test.YtopfaeefhicljaaP14
import Derived.Test.YtopfaeefhicljaaPgS
namespace Go.Proofs.Ytopfaeefhicljaa.Q
open Go Go.RowKit Go.Proofs.YtopfaeefhicljaaW.PrintWords Go.Proofs.Ytopfaeefhicljaa.Leb Go.Proofs.Ytopfaeefhicljaa.Str
set_option linter.unusedVariables false
set_option linter.unusedSimpArgs false

theorem byt_l0 (keys vals : List ByteArray) (kind : Int) (kids : List Int) (root next size idle : Int) (hv : vals.length = keys.length) (hl : keys.length ≤ 1000) (hk : ∀ s ∈ keys, s.size ≤ 1000) (hvs : ∀ s ∈ vals, s.size ≤ 1000) :
    ∀ (d i k : Nat) (acc : List Int), i + d = keys.length → d + 12 ≤ k → acc.length + 3000 * d ≤ 100000000 →
      dockmasterlaw06_bytes.l0 k acc (keys.length : Int) (i : Int) kind keys vals kids root next size idle = some (acc ++ leafL (keys.drop i) (vals.drop i) []) := by
  intro d
  induction d with
  | zero =>
    intro i k acc h hk _
    obtain ⟨k, rfl⟩ : ∃ m, k = m + 1 := ⟨k - 1, by omega⟩
    simp only [dockmasterlaw06_bytes.l0]
    rw [if_neg (by omega), List.drop_of_length_le (by omega)]
    simp [leafL]
  | succ d ih =>
    intro i k acc h hk' ha
    obtain ⟨k, rfl⟩ : ∃ m, k = m + 1 := ⟨k - 1, by omega⟩
    simp only [dockmasterlaw06_bytes.l0]
    rw [if_pos (by omega), if_pos (by omega), if_pos (by omega)]
    have e1 : rdOf ByteArray.empty keys (i : Int) = keys.getD i ByteArray.empty := by simp [rdOf]
    have e2 : rdOf ByteArray.empty vals (i : Int) = vals.getD i ByteArray.empty := by simp [rdOf]
    have s1 := hk _ (getD_mem keys i ByteArray.empty (by omega))
    have s2 := hvs _ (getD_mem vals i ByteArray.empty (by omega))
    have l1 := leb_ten (n := (keys.getD i ByteArray.empty).size) (by omega)
    have l2 := leb_ten (n := (vals.getD i ByteArray.empty).size) (by omega)
    have b1 := length_bytes (keys.getD i ByteArray.empty)
    have b2 := length_bytes (vals.getD i ByteArray.empty)
    rw [e1, text_l k acc _ (by omega) (by omega) (by omega), Option.bind_some, if_pos (by omega), e2, text_l k _ _ (by omega) (by omega) (by simp only [List.length_append]; omega), Option.bind_some, succ64 i (by omega)]
    rw [ih (i + 1) k _ (by omega) (by omega) (by simp only [List.length_append]; omega)]
    rw [drop_cons keys i ByteArray.empty (by omega), drop_cons vals i ByteArray.empty (by omega)]
    simp [leafL, textL]

theorem byt_l1 (keys vals : List ByteArray) (kind : Int) (kids : List Int) (root next size idle : Int) (hv : keys.length + 1 = kids.length) (hl : kids.length ≤ 1000) (hk : ∀ s ∈ keys, s.size ≤ 1000) (hn : ∀ n ∈ kids, 0 ≤ n ∧ n < 65536) :
    ∀ (d i k : Nat) (acc : List Int), i + d = keys.length → d + 12 ≤ k → acc.length + 3000 * d ≤ 100000000 →
      dockmasterlaw06_bytes.l1 k acc (keys.length : Int) (i : Int) kind keys vals kids root next size idle = some (acc ++ pairL (keys.drop i) (kids.drop (i + 1)) []) := by
  intro d
  induction d with
  | zero =>
    intro i k acc h hk _
    obtain ⟨k, rfl⟩ : ∃ m, k = m + 1 := ⟨k - 1, by omega⟩
    simp only [dockmasterlaw06_bytes.l1]
    rw [if_neg (by omega), List.drop_of_length_le (l := keys) (by omega)]
    simp [pairL]
  | succ d ih =>
    intro i k acc h hk' ha
    obtain ⟨k, rfl⟩ : ∃ m, k = m + 1 := ⟨k - 1, by omega⟩
    simp only [dockmasterlaw06_bytes.l1]
    have e1 : rdOf ByteArray.empty keys (i : Int) = keys.getD i ByteArray.empty := by simp [rdOf]
    have e2 : rd kids ((i + 1 : Nat) : Int) = kids.getD (i + 1) 0 := by simp [rd]
    have s1 := hk _ (getD_mem keys i ByteArray.empty (by omega))
    have s2 := hn _ (getD_mem kids (i + 1) 0 (by omega))
    have l1 := leb_ten (n := (keys.getD i ByteArray.empty).size) (by omega)
    have b1 := length_bytes (keys.getD i ByteArray.empty)
    have l2 := leb_ten (n := (kids.getD (i + 1) 0).toNat) (by omega)
    have w2 : IntKind.u64.wrap (kids.getD (i + 1) 0) = (((kids.getD (i + 1) 0).toNat : Nat) : Int) := by
      have := wrap_nat (kids.getD (i + 1) 0).toNat (by omega)
      rw [← nat_of _ s2.1] at this
      rw [← nat_of _ s2.1]
      exact this
    rw [if_pos (by omega), if_pos (by omega), if_pos (by omega), e1, text_l k acc _ (by omega) (by omega) (by omega), Option.bind_some, succ64 i (by omega), if_pos (by omega), if_pos (by omega), e2, w2, put_l _ k _ (by omega) (by omega) (by simp only [List.length_append]; omega), Option.bind_some]
    rw [ih (i + 1) k _ (by omega) (by omega) (by simp only [List.length_append]; omega)]
    rw [drop_cons keys i ByteArray.empty (by omega), drop_cons kids (i + 1) 0 (by omega)]
    simp [pairL, textL]

theorem byt_f (k : Nat) (p : PgV) (lsn : Nat) (hk : 100 ≤ k) (hl : lsn < 18446744073709551616) (h : rightP p = true) :
    dockmasterlaw06_bytes.f k p.kind p.keys p.vals p.kids p.root p.next p.size p.idle (lsn : Int) = some (encP p lsn []) := by
  have r := rtP_of h
  obtain ⟨kind, keys, vals, kids, root, next, size, idle⟩ := p
  obtain ⟨r1, r2, r3, r4, r5, r6⟩ := r
  dsimp only at *
  obtain ⟨kind, rfl⟩ := Int.eq_ofNat_of_zero_le (show 0 ≤ kind by omega)
  have l1 := leb_ten (n := kind) (by omega)
  have l2 := leb_ten hl
  unfold dockmasterlaw06_bytes.f
  rw [wrap_nat kind (by omega), put_l kind k [] (by omega) (by omega) (by simp), Option.bind_some, put_l lsn k _ hl (by omega) (by simp; omega), Option.bind_some]
  unfold encP bodyP
  simp only [Int.toNat_natCast]
  by_cases c1 : (kind : Int) = 1
  · obtain ⟨a, b, c, _, e⟩ := r3 c1
    have l3 := leb_ten (n := keys.length) (by omega)
    rw [if_pos c1, if_pos c1, wrap_nat keys.length (by omega), put_l _ k _ (by omega) (by omega) (by simp; omega), Option.bind_some]
    have := byt_l0 keys vals (kind : Int) kids root next size idle b (by omega) (fun s hs => by have := r1 s hs; omega) (fun s hs => by have := e s hs; omega) keys.length 0 k (([] ++ leb kind) ++ leb lsn ++ leb keys.length) (by omega) (by omega) (by simp; omega)
    rw [show ((0 : Nat) : Int) = 0 from rfl] at this
    rw [this]
    simp
  · rw [if_neg c1, if_neg c1]
    by_cases c2 : (kind : Int) = 2
    · obtain ⟨a, b, c, _, _, e⟩ := r4 c2
      have l3 := leb_ten (n := kids.length) (by omega)
      rw [if_pos c2, if_pos c2, wrap_nat kids.length (by omega), put_l _ k _ (by omega) (by omega) (by simp; omega), Option.bind_some]
      have s2 := e _ (getD_mem kids 0 0 (by omega))
      have e2 : rd kids 0 = kids.getD 0 0 := by simp [rd]
      have w2 : IntKind.u64.wrap (kids.getD 0 0) = (((kids.getD 0 0).toNat : Nat) : Int) := by
        have := wrap_nat (kids.getD 0 0).toNat (by omega)
        rw [← nat_of _ s2.1] at this
        rw [← nat_of _ s2.1]
        exact this
      have l4 := leb_ten (n := (kids.getD 0 0).toNat) (by omega)
      rw [if_pos (by omega), e2, w2, put_l _ k _ (by omega) (by omega) (by simp only [List.length_append, List.length_nil]; omega), Option.bind_some]
      have := byt_l1 keys vals (kind : Int) kids root next size idle c (by omega) (fun s hs => by have := r1 s hs; omega) e keys.length 0 k (([] ++ leb kind) ++ leb lsn ++ leb kids.length ++ leb (kids.getD 0 0).toNat) (by omega) (by omega) (by simp only [List.length_append, List.length_nil]; omega)
      rw [show ((0 : Nat) : Int) = 0 from rfl] at this
      rw [this]
      have hd := drop_cons kids 0 0 (by omega)
      rw [List.drop_zero] at hd
      have hi : innerL keys kids [] = leb (kids.getD 0 0).toNat ++ pairL keys (kids.drop 1) [] := by
        conv => lhs; rw [hd]
        rfl
      rw [hi]
      simp
    · rw [if_neg c2, if_neg c2]
      by_cases c3 : (kind : Int) = 3
      · obtain ⟨_, _, _, q1, q2, q3, q4, q5, q6, q7, q8⟩ := r5 c3
        obtain ⟨root, rfl⟩ := Int.eq_ofNat_of_zero_le q1
        obtain ⟨next, rfl⟩ := Int.eq_ofNat_of_zero_le q3
        obtain ⟨size, rfl⟩ := Int.eq_ofNat_of_zero_le q5
        obtain ⟨idle, rfl⟩ := Int.eq_ofNat_of_zero_le q7
        have l3 := leb_ten (n := root) (by omega)
        have l4 := leb_ten (n := next) (by omega)
        have l5 := leb_ten (n := size) (by omega)
        rw [if_pos c3, if_pos c3, wrap_nat root (by omega), put_l _ k _ (by omega) (by omega) (by simp; omega), Option.bind_some, wrap_nat next (by omega), put_l _ k _ (by omega) (by omega) (by simp; omega), Option.bind_some, wrap_nat size (by omega), put_l _ k _ (by omega) (by omega) (by simp; omega), Option.bind_some, wrap_nat idle (by omega), put_l _ k _ (by omega) (by omega) (by simp; omega), Option.bind_some]
        simp
      · rw [if_neg c3, if_neg c3]
        obtain ⟨_, _, _, q1, q2, q3, q4, q5⟩ := r6 (by omega)
        obtain ⟨next, rfl⟩ := Int.eq_ofNat_of_zero_le q2
        rw [if_pos (by omega), if_pos (by omega), wrap_nat next (by omega), put_l _ k _ (by omega) (by omega) (by simp; omega), Option.bind_some]
        simp

end Go.Proofs.Ytopfaeefhicljaa.Q
