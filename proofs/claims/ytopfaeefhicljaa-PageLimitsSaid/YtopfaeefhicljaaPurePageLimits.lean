/- Proved: PageLimits answers true: as many keys and pages as there may be, and one more. No conditions beyond the given statement's. -/
import Derived.Test.YtopfaeefhicljaaP7
import Derived.Test.YtopfaeefhicljaaPgEnc
namespace Go.Proofs.Ytopfaeefhicljaa.Pure
open Go Go.RowKit Go.Proofs.Ytopfaeefhicljaa.Q Go.Proofs.YtopfaeefhicljaaW.PrintWords Go.Proofs.YtopfaeefhicljaaW.PrintLast Go.Proofs.Ytopfaeefhicljaa.Leb Go.Proofs.Ytopfaeefhicljaa.Str
set_option linter.unusedVariables false
set_option linter.unusedSimpArgs false

theorem and_mask (i : Int) (m : Nat) (hm : m < 9223372036854775808) : 0 ≤ bits .and .i64 i (m : Int) ∧ bits .and .i64 i (m : Int) ≤ m := by
  have hb' : m % 2 ^ IntKind.i64.bits = m := Nat.mod_eq_of_lt (by simp [IntKind.bits]; omega)
  have hq : (BitVec.ofInt IntKind.i64.bits i).toNat &&& m ≤ m := Nat.and_le_right
  simp only [bits, BitVec.ofInt_natCast, BitVec.toNat_and, BitVec.toNat_ofNat, hb']
  rw [IntKind.wrap_i64]
  omega

def KY (c : Int) (i : Nat) : ByteArray := strOfNums [((i + 1 : Nat) : Int), c]
def KS (c : Int) (n : Nat) : List ByteArray := (List.range n).map (KY c)
def KI (n : Nat) : List Int := (List.range n).map fun (i : Nat) => (i : Int)

theorem KS_len (c : Int) (n : Nat) : (KS c n).length = n := by simp [KS]
theorem KI_len (n : Nat) : (KI n).length = n := by simp [KI]
theorem KS_get (c : Int) (n i : Nat) (h : i < n) : (KS c n).getD i ByteArray.empty = KY c i := by
  simp [KS, List.getD_eq_getElem?_getD, h]
theorem KS_succ (c : Int) (n : Nat) : KS c (n + 1) = KS c n ++ [KY c n] := by simp [KS, List.range_succ]
theorem KI_succ (n : Nat) : KI (n + 1) = KI n ++ [(n : Int)] := by simp [KI, List.range_succ]

theorem less_snd (a b : Nat) (c : Int) (h : a < b) (hb : b < 256) : Op.bytesLess (strOfNums [(a : Int), c]).toList (strOfNums [(b : Int), c]).toList = true := by
  rw [Lib.strOfNums_toList, Lib.strOfNums_toList]
  show Op.bytesLess [UInt8.ofNat a, UInt8.ofNat c.toNat] [UInt8.ofNat b, UInt8.ofNat c.toNat] = true
  simp only [Op.bytesLess]
  have : UInt8.ofNat a < UInt8.ofNat b := by
    rw [UInt8.lt_iff_toNat_lt]
    simp
    omega
  simp [this]

theorem KS_rise (c : Int) (n : Nat) (hn : n ≤ 15) : riseB (KS c n) = true := by
  unfold riseB
  rw [List.all_eq_true]
  intro i hi
  rw [List.mem_range'_1, KS_len] at hi
  unfold riseAt
  rw [KS_get c n i (by omega)]
  have hs : (KY c i).size = 2 := by simp [KY, size_str]
  rw [hs]
  rcases Nat.eq_zero_or_pos i with h0 | h0
  · simp [h0]
  · rw [KS_get c n (i - 1) (by omega)]
    have : Op.bytesLess (KY c (i - 1)).toList (KY c i).toList = true := by
      unfold KY
      rw [show i - 1 + 1 = i by omega]
      exact less_snd i (i + 1) c (by omega) (by omega)
    rw [this]
    simp

def leafP (c : Int) (n : Nat) : PgV := ⟨1, KS c n, List.replicate n (⟨#[]⟩ : ByteArray), [], 0, 0, 0, 0⟩
def innerP (c : Int) (n : Nat) : PgV := ⟨2, KS c n, [], [c] ++ KI n, 0, 0, 0, 0⟩

theorem leaf_right (c : Int) (n : Nat) (hn : n ≤ 15) : rightP (leafP c n) = decide (n ≤ 6) := by
  unfold rightP leafP
  dsimp only
  rw [KS_rise c n hn, Bool.true_and]
  unfold rightK noneB
  dsimp only
  rw [if_pos rfl, KS_len]
  have : (List.replicate n (⟨#[]⟩ : ByteArray)).all (fun v => decide (v.size ≤ 48)) = true := by
    rw [List.all_eq_true]
    intro v hv
    rw [List.eq_of_mem_replicate hv]
    rfl
  rw [this]
  simp

theorem inner_right (c : Int) (n : Nat) (hn : n ≤ 15) (hc : 0 ≤ c ∧ c < 256) : rightP (innerP c n) = (decide (1 ≤ n) && decide (n ≤ 7)) := by
  unfold rightP innerP
  dsimp only
  rw [KS_rise c n hn, Bool.true_and]
  unfold rightK noneB
  dsimp only
  rw [if_neg (by omega), if_pos rfl, KS_len]
  have : ([c] ++ KI n).all (fun v => decide (0 ≤ v ∧ v < 65536)) = true := by
    rw [List.all_eq_true]
    intro v hv
    rw [List.singleton_append, List.mem_cons] at hv
    rcases hv with rfl | hv
    · simp; omega
    · unfold KI at hv
      obtain ⟨j, hj, rfl⟩ := List.mem_map.mp hv
      rw [List.mem_range] at hj
      exact decide_eq_true (by omega)
  rw [this]
  simp [KI_len]

theorem enc_err (k : Nat) (p : PgV) (b : Bool) (lsn : Nat) (hl : lsn < 18446744073709551616) (hk : 100 ≤ k) (h1 : p.keys.length < 100) (h2 : p.vals.length < 100) (h3 : p.kids.length < 100) (h : rightP p = b) :
    ∃ l e, page_Encode.f k p.kind p.keys p.vals p.kids p.root p.next p.size p.idle (lsn : Int) = some (l, e) ∧ (e == 0) = b := by
  cases b
  · exact ⟨_, _, enc_no_p k p lsn (by omega) (by omega) (by omega) (by omega) h, rfl⟩
  · exact ⟨_, _, enc_yes_p k p lsn hk hl h, rfl⟩

theorem limits_end (k n : Nat) (c : Int) (hc : 0 ≤ c ∧ c < 256) (hn : n ≤ 15) (hk : 101 ≤ k) :
    dockmasterlaw06_PageLimits.l0 k (n : Int) c (n : Int) 1 (KS c n) (List.replicate n (⟨#[]⟩ : ByteArray)) 0 0 0 0 2 (KS c n) ([c] ++ KI n) 0 0 0 0 = some true := by
  obtain ⟨k, rfl⟩ : ∃ m, k = m + 1 := ⟨k - 1, by omega⟩
  simp only [dockmasterlaw06_PageLimits.l0]
  rw [if_neg (by omega)]
  have q1 := leaf_right c n hn
  have q2 := inner_right c n hn hc
  obtain ⟨l1, e1, a1, b1⟩ := enc_err k (leafP c n) _ 0 (by omega) (by omega) (by simp [leafP, KS_len]; omega) (by simp [leafP]; omega) (by simp [leafP]) q1
  obtain ⟨l2, e2, a2, b2⟩ := enc_err k (innerP c n) _ 0 (by omega) (by omega) (by simp [innerP, KS_len]; omega) (by simp [innerP]) (by simp [innerP, KI_len]; omega) q2
  have p1 := pright_f k (leafP c n) (by simp [leafP, KS_len]; omega) (by simp [leafP, KS_len]; omega) (by simp [leafP]; omega) (by simp [leafP])
  have p2 := pright_f k (innerP c n) (by simp [innerP, KS_len]; omega) (by simp [innerP, KS_len]; omega) (by simp [innerP]) (by simp [innerP, KI_len]; omega)
  rw [q1] at p1
  rw [q2] at p2
  simp only [leafP] at a1 p1
  simp only [innerP] at a2 p2
  rw [show ((0 : Nat) : Int) = 0 from rfl] at a1 a2
  rw [a1, Option.bind_some, a2, Option.bind_some, p1, Option.bind_some, b1, b2]
  have t1 : decide ((n : Int) ≤ 6) = decide (n ≤ 6) := by rw [Bool.eq_iff_iff]; simp; omega
  have t2 : decide ((n : Int) ≤ 7) = decide (n ≤ 7) := by rw [Bool.eq_iff_iff]; simp; omega
  rw [t1, t2, p2, Option.bind_some]
  rw [if_pos (by simp)]
  by_cases h1 : 1 ≤ n
  · rw [if_pos (by omega), decide_eq_true h1, Bool.true_and, if_pos (by simp), if_pos (by simp)]
    simp
  · rw [if_neg (by omega), decide_eq_false h1, Bool.false_and, if_pos (by simp), if_pos (by simp)]
    simp

theorem limits_l0 (n : Nat) (c : Int) (hc : 0 ≤ c ∧ c < 256) (hn : n ≤ 15) : ∀ (d i k : Nat), i + d = n → d + 101 ≤ k →
    dockmasterlaw06_PageLimits.l0 k (n : Int) c (i : Int) 1 (KS c i) (List.replicate i (⟨#[]⟩ : ByteArray)) 0 0 0 0 2 (KS c i) ([c] ++ KI i) 0 0 0 0 = some true := by
  intro d
  induction d with
  | zero =>
    intro i k h hk
    obtain rfl : i = n := by omega
    exact limits_end k i c hc hn (by omega)
  | succ d ih =>
    intro i k h hk
    obtain ⟨k, rfl⟩ : ∃ m, k = m + 1 := ⟨k - 1, by omega⟩
    simp only [dockmasterlaw06_PageLimits.l0]
    rw [if_pos (by omega), Option.bind_some, if_pos (by rw [KS_len]; omega), if_pos (by rw [List.length_replicate]; omega), if_pos (by rw [KS_len]; omega), if_pos (by rw [List.length_append, KI_len]; simp; omega)]
    rw [succ64 i (by omega), show ((i + 1 : Nat) : Int) % 256 = ((i + 1 : Nat) : Int) by omega]
    have e1 : strOfNums [((i + 1 : Nat) : Int), c] = KY c i := rfl
    have e2 : List.replicate i (⟨#[]⟩ : ByteArray) ++ [⟨#[]⟩] = List.replicate (i + 1) (⟨#[]⟩ : ByteArray) := by rw [List.replicate_succ']
    rw [e1, e2, ← KS_succ, List.append_assoc, ← KI_succ]
    exact ih (i + 1) k (by omega) (by omega)

theorem PageLimits : dockmasterlaw06_PageLimits.Pure := by
  intro a0 a1 h0 h1
  have b1 := bounds_u8 h1
  have h2 := and_mask a0 15 (by omega)
  refine ⟨200, ?_⟩
  unfold dockmasterlaw06_PageLimits.f
  rw [head_p 200 (by omega), Option.bind_some, if_pos rfl, wrap64_id a1 (by omega) (by omega)]
  rw [show (15 : Int) = ((15 : Nat) : Int) from rfl]
  generalize bits .and .i64 a0 ((15 : Nat) : Int) = x at h2
  obtain ⟨n, rfl⟩ := Int.eq_ofNat_of_zero_le h2.1
  have h := limits_l0 n a1 (by omega) (by omega) n 0 200 (by omega) (by omega)
  simpa [KS, KI] using h

end Go.Proofs.Ytopfaeefhicljaa.Pure
