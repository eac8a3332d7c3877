/- Proved: PageGreatest answers true: the greatest leaf and the greatest inner page go into a sector. No conditions beyond the given statement's. -/
import Derived.Test.YtopfaeefhicljaaPgG
import Derived.Test.YtopfaeefhicljaaPgDec
namespace Go.Proofs.Ytopfaeefhicljaa.Pure
open Go Go.RowKit Go.Proofs.Ytopfaeefhicljaa.Q Go.Proofs.YtopfaeefhicljaaW.PrintWords Go.Proofs.YtopfaeefhicljaaW.PrintLast Go.Proofs.Ytopfaeefhicljaa.Leb Go.Proofs.Ytopfaeefhicljaa.Str
set_option linter.unusedVariables false
set_option linter.unusedSimpArgs false

theorem set_rep {α : Type} (i d : Nat) (c z : α) : (List.replicate i c ++ List.replicate (d + 1) z).set i c = List.replicate (i + 1) c ++ List.replicate d z := by
  rw [List.set_append_right _ _ (by simp), List.length_replicate, Nat.sub_self, List.replicate_succ, List.set_cons_zero, List.replicate_succ', List.append_assoc]
  rfl

section
variable (x0 x1 x7 a0 a4 a5 a6 a7 b0 b4 b5 b6 b7 : Int) (a1 a2 b1 : List ByteArray) (b3 : List Int) (R : Option Bool) (K : Nat)
theorem l2_run (x8 : List Int) (h : ∀ k, K ≤ k → dockmasterlaw06_PageGreatest.l2 k x0 x1 x7 x8 (List.replicate 48 x0) 48 48 a0 a1 a2 a4 a5 a6 a7 b0 b1 b3 b4 b5 b6 b7 = R) :
    ∀ (d i k : Nat), i + d = 48 → d + K ≤ k → dockmasterlaw06_PageGreatest.l2 k x0 x1 x7 x8 (List.replicate i x0 ++ List.replicate d 0) 48 (i : Int) a0 a1 a2 a4 a5 a6 a7 b0 b1 b3 b4 b5 b6 b7 = R := by
  intro d
  induction d with
  | zero =>
    intro i k hi hk
    obtain rfl : i = 48 := by omega
    rw [List.replicate_zero, List.append_nil]
    exact h k (by omega)
  | succ d ih =>
    intro i k hi hk
    obtain ⟨k, rfl⟩ : ∃ m, k = m + 1 := ⟨k - 1, by omega⟩
    simp only [dockmasterlaw06_PageGreatest.l2]
    rw [if_pos (by omega), if_pos (by omega), if_pos (by simp; omega), Int.toNat_natCast, set_rep, succ64 i (by omega)]
    exact ih (i + 1) k (by omega) (by omega)

theorem l1_run (h : ∀ k, K ≤ k → dockmasterlaw06_PageGreatest.l2 k x0 x1 x7 (List.replicate 24 x0) (List.replicate 48 x0) 48 48 a0 a1 a2 a4 a5 a6 a7 b0 b1 b3 b4 b5 b6 b7 = R) :
    ∀ (d i k : Nat), i + d = 24 → d + K + 49 ≤ k → dockmasterlaw06_PageGreatest.l1 k x0 x1 x7 (List.replicate i x0 ++ List.replicate d 0) (List.replicate 48 0) 24 (i : Int) a0 a1 a2 a4 a5 a6 a7 b0 b1 b3 b4 b5 b6 b7 = R := by
  intro d
  induction d with
  | zero =>
    intro i k hi hk
    obtain rfl : i = 24 := by omega
    obtain ⟨k, rfl⟩ : ∃ m, k = m + 1 := ⟨k - 1, by omega⟩
    rw [List.replicate_zero, List.append_nil]
    simp only [dockmasterlaw06_PageGreatest.l1]
    rw [if_neg (by omega), List.length_replicate]
    have := l2_run x0 x1 x7 a0 a4 a5 a6 a7 b0 b4 b5 b6 b7 a1 a2 b1 b3 R K (List.replicate 24 x0) h 48 0 k (by omega) (by omega)
    rw [List.replicate_zero, List.nil_append] at this
    exact this
  | succ d ih =>
    intro i k hi hk
    obtain ⟨k, rfl⟩ : ∃ m, k = m + 1 := ⟨k - 1, by omega⟩
    simp only [dockmasterlaw06_PageGreatest.l1]
    rw [if_pos (by omega), if_pos (by omega), if_pos (by simp; omega), Int.toNat_natCast, set_rep, succ64 i (by omega)]
    exact ih (i + 1) k (by omega) (by omega)
end

def KY (c : Int) (i : Nat) : ByteArray := strOfNums (((i + 1 : Nat) : Int) :: List.replicate 23 c)
def VL (c : Int) : ByteArray := strOfNums (List.replicate 48 c)
def KS (c : Int) (n : Nat) : List ByteArray := (List.range n).map (KY c)
def VS (c : Int) (n : Nat) : List ByteArray := List.replicate n (VL c)
def KD (n : Nat) : List Int := (List.range n).map fun (i : Nat) => 65535 - (i : Int)

theorem KY_size (c : Int) (i : Nat) : (KY c i).size = 24 := by simp [KY, size_str]
theorem VL_size (c : Int) : (VL c).size = 48 := by simp [VL, size_str]
theorem KS_len (c : Int) (n : Nat) : (KS c n).length = n := by simp [KS]
theorem VS_len (c : Int) (n : Nat) : (VS c n).length = n := by simp [VS]
theorem KD_len (n : Nat) : (KD n).length = n := by simp [KD]
theorem KS_get (c : Int) (n i : Nat) (h : i < n) : (KS c n).getD i ByteArray.empty = KY c i := by simp [KS, List.getD_eq_getElem?_getD, h]
theorem KS_succ (c : Int) (n : Nat) : KS c (n + 1) = KS c n ++ [KY c n] := by simp [KS, List.range_succ]
theorem VS_succ (c : Int) (n : Nat) : VS c (n + 1) = VS c n ++ [VL c] := by simp [VS, List.replicate_succ']
theorem KD_succ (n : Nat) : KD (n + 1) = KD n ++ [65535 - (n : Int)] := by simp [KD, List.range_succ]

theorem less_first (a b : Nat) (s t : List Int) (h : a < b) (hb : b < 256) : Op.bytesLess (strOfNums ((a : Int) :: s)).toList (strOfNums ((b : Int) :: t)).toList = true := by
  rw [Lib.strOfNums_toList, Lib.strOfNums_toList]
  show Op.bytesLess (UInt8.ofNat a :: Lib.bytesOf s) (UInt8.ofNat b :: Lib.bytesOf t) = true
  simp only [Op.bytesLess]
  have : UInt8.ofNat a < UInt8.ofNat b := by
    rw [UInt8.lt_iff_toNat_lt]
    simp
    omega
  simp [this]

theorem KS_rise (c : Int) (n : Nat) (hn : n ≤ 15) : riseB (KS c n) = true := by
  unfold riseB
  rw [List.all_eq_true]
  intro i hi
  rw [List.mem_range'_1, KS_len] at hi
  unfold riseAt
  rw [KS_get c n i (by omega), KY_size]
  rcases Nat.eq_zero_or_pos i with h0 | h0
  · simp [h0]
  · rw [KS_get c n (i - 1) (by omega)]
    have : Op.bytesLess (KY c (i - 1)).toList (KY c i).toList = true := by
      unfold KY
      rw [show i - 1 + 1 = i by omega]
      exact less_first i (i + 1) _ _ (by omega) (by omega)
    rw [this]
    simp

def leafP (c : Int) : PgV := ⟨1, KS c 6, VS c 6, [], 0, 0, 0, 0⟩
def innerP (c : Int) : PgV := ⟨2, KS c 7, [], [65535] ++ KD 7, 0, 0, 0, 0⟩
def tooP (c : Int) : PgV := ⟨1, KS c 6 ++ [(⟨#[8]⟩ : ByteArray)], VS c 6 ++ [(⟨#[]⟩ : ByteArray)], [], 0, 0, 0, 0⟩

theorem leaf_right (c : Int) : rightP (leafP c) = true := by
  unfold rightP leafP
  dsimp only
  rw [KS_rise c 6 (by omega), Bool.true_and]
  unfold rightK noneB
  dsimp only
  rw [if_pos rfl, KS_len, VS_len]
  have : (VS c 6).all (fun v => decide (v.size ≤ 48)) = true := by
    rw [List.all_eq_true]
    intro v hv
    rw [show v = VL c from List.eq_of_mem_replicate hv, VL_size]
    rfl
  rw [this]
  simp

theorem inner_right (c : Int) : rightP (innerP c) = true := by
  unfold rightP innerP
  dsimp only
  rw [KS_rise c 7 (by omega), Bool.true_and]
  unfold rightK noneB
  dsimp only
  rw [if_neg (by omega), if_pos rfl, KS_len]
  have : ([65535] ++ KD 7).all (fun v => decide (0 ≤ v ∧ v < 65536)) = true := by decide
  rw [this]
  simp [KD_len]

theorem too_right (c : Int) : rightP (tooP c) = false := by
  unfold rightP tooP
  dsimp only
  have : rightK ⟨1, KS c 6 ++ [(⟨#[8]⟩ : ByteArray)], VS c 6 ++ [(⟨#[]⟩ : ByteArray)], [], 0, 0, 0, 0⟩ = false := by
    unfold rightK
    dsimp only
    rw [if_pos rfl, List.length_append, KS_len]
    simp
  rw [this, Bool.and_false]

theorem leaf_exact : ∀ (ks vs : List ByteArray), ks.length = vs.length → (∀ s ∈ ks, s.size = 24) → (∀ s ∈ vs, s.size = 48) → (leafL ks vs []).length = 74 * ks.length
  | k :: ks, v :: vs, h, h1, h2 => by
    have := leaf_exact ks vs (by simpa using h) (fun s hs => h1 s (List.mem_cons_of_mem _ hs)) (fun s hs => h2 s (List.mem_cons_of_mem _ hs))
    have a := h1 k (List.mem_cons_self ..)
    have b := h2 v (List.mem_cons_self ..)
    simp only [leafL]
    rw [textL_len k _ 0 (by omega), textL_len v _ 0 (by omega)]
    simp only [List.length_cons]
    omega
  | [], [], _, _, _ => by simp [leafL]
  | [], _ :: _, h, _, _ => by simp at h
  | _ :: _, [], h, _, _ => by simp at h

theorem leaf_ge (c : Int) (m : Nat) : 444 ≤ (encP (leafP c) m []).length := by
  unfold encP bodyP leafP
  dsimp only
  rw [if_pos rfl]
  have := leaf_exact (KS c 6) (VS c 6) (by rw [KS_len, VS_len]) (fun s hs => by
    obtain ⟨i, _, rfl⟩ := List.mem_map.mp hs
    exact KY_size c i) (fun s hs => by rw [show s = VL c from List.eq_of_mem_replicate hs, VL_size])
  rw [KS_len] at this
  simp only [List.length_append]
  omega

theorem great_end (k : Nat) (c : Int) (m : Nat) (hm : m < 18446744073709551616) (hk : 101 ≤ k) :
    dockmasterlaw06_PageGreatest.l0 k c (m : Int) 7 1 (KS c 6) (VS c 6) 0 0 0 0 2 (KS c 7) ([65535] ++ KD 7) 0 0 0 0 = some true := by
  obtain ⟨k, rfl⟩ : ∃ m, k = m + 1 := ⟨k - 1, by omega⟩
  simp only [dockmasterlaw06_PageGreatest.l0]
  rw [if_neg (by omega)]
  have a1 := enc_yes_p k (leafP c) m (by omega) hm (leaf_right c)
  have a2 := enc_yes_p k (innerP c) m (by omega) hm (inner_right c)
  have a3 := enc_no_p k (tooP c) (m : Int) (by simp [tooP, KS_len]; omega) (by simp [tooP, KS_len]) (by simp [tooP, VS_len]) (by simp [tooP]) (too_right c)
  have s1 := enc_small (leaf_right c) hm
  have s2 := enc_small (inner_right c) hm
  have s3 := leaf_ge c m
  simp only [leafP] at a1
  simp only [innerP] at a2
  simp only [tooP] at a3
  rw [a1, Option.bind_some, a2, Option.bind_some, if_pos (by rw [KS_len]; omega), if_pos (by rw [VS_len]; omega), a3, Option.bind_some]
  simp only [leafP] at s1 s3
  simp only [innerP] at s2
  rw [if_pos rfl, if_pos rfl, if_pos (by dsimp only; omega), if_pos (by dsimp only; omega), if_pos (by dsimp only; omega)]
  rfl

theorem set_first (c : Int) (i : Nat) : (List.replicate 24 c).set 0 ((i + 1 : Nat) : Int) = ((i + 1 : Nat) : Int) :: List.replicate 23 c := by
  rw [show (24 : Nat) = 23 + 1 from rfl, List.replicate_succ, List.set_cons_zero]

theorem great_step (c : Int) (m : Nat) (i : Nat) (hi : i < 7) (K : Nat)
    (h : ∀ k, K ≤ k → dockmasterlaw06_PageGreatest.l0 k c (m : Int) ((i + 1 : Nat) : Int) 1 (KS c (min (i + 1) 6)) (VS c (min (i + 1) 6)) 0 0 0 0 2 (KS c (i + 1)) ([65535] ++ KD (i + 1)) 0 0 0 0 = some true) (k : Nat) (hk : K + 80 ≤ k) :
    dockmasterlaw06_PageGreatest.l0 k c (m : Int) (i : Int) 1 (KS c (min i 6)) (VS c (min i 6)) 0 0 0 0 2 (KS c i) ([65535] ++ KD i) 0 0 0 0 = some true := by
  obtain ⟨k, rfl⟩ : ∃ m, k = m + 1 := ⟨k - 1, by omega⟩
  simp only [dockmasterlaw06_PageGreatest.l0]
  rw [if_pos (by omega), if_pos (by omega), Option.bind_some, if_pos (by omega), List.length_replicate]
  have := l1_run c m i 1 0 0 0 0 2 0 0 0 0 (KS c (min i 6)) (VS c (min i 6)) (KS c i) ([65535] ++ KD i) (some true) (K + 1) (fun k hk => ?_) 24 0 k (by omega) (by omega)
  · rw [List.replicate_zero, List.nil_append] at this
    exact this
  · obtain ⟨k, rfl⟩ : ∃ m, k = m + 1 := ⟨k - 1, by omega⟩
    simp only [dockmasterlaw06_PageGreatest.l2]
    rw [if_neg (by omega), if_pos (by simp), succ64 i (by omega), show ((i + 1 : Nat) : Int) % 256 = ((i + 1 : Nat) : Int) by omega, Int.toNat_zero, set_first, Option.bind_some]
    have e1 : strOfNums (((i + 1 : Nat) : Int) :: List.replicate 23 c) = KY c i := rfl
    have e2 : strOfNums (List.replicate 48 c) = VL c := rfl
    have e3 : wrap64 (65535 - (i : Int)) = 65535 - (i : Int) := wrap64_id _ (by omega) (by omega)
    rw [e1, e2, e3]
    have hK := h k (by omega)
    by_cases h6 : i < 6
    · rw [show min (i + 1) 6 = i + 1 by omega, KS_succ, VS_succ, KD_succ] at hK
      rw [show min i 6 = i by omega, if_pos (by omega), if_pos (by rw [KS_len]; omega), if_pos (by rw [VS_len]; omega), if_pos (by rw [KS_len]; omega), if_pos (by rw [List.length_append, KD_len]; simp; omega), List.append_assoc]
      exact hK
    · rw [show min (i + 1) 6 = 6 by omega, KS_succ c i, KD_succ] at hK
      rw [show min i 6 = 6 by omega, if_neg (by omega), if_pos (by rw [KS_len]; omega), if_pos (by rw [List.length_append, KD_len]; simp; omega), List.append_assoc]
      exact hK

theorem great_l0 (c : Int) (m : Nat) (hm : m < 18446744073709551616) : ∀ (d i k : Nat), i + d = 7 → 101 + 80 * d ≤ k →
    dockmasterlaw06_PageGreatest.l0 k c (m : Int) (i : Int) 1 (KS c (min i 6)) (VS c (min i 6)) 0 0 0 0 2 (KS c i) ([65535] ++ KD i) 0 0 0 0 = some true := by
  intro d
  induction d with
  | zero =>
    intro i k h hk
    obtain rfl : i = 7 := by omega
    exact great_end k c m hm (by omega)
  | succ d ih =>
    intro i k h hk
    exact great_step c m i (by omega) (101 + 80 * d) (fun k hk => ih (i + 1) k (by omega) hk) k (by omega)

theorem PageGreatest : dockmasterlaw06_PageGreatest.Pure := by
  intro a0 a1 h0 h1
  have b1 := bounds_u64 h1
  obtain ⟨m, rfl⟩ := Int.eq_ofNat_of_zero_le (show 0 ≤ a1 by omega)
  refine ⟨1000, ?_⟩
  unfold dockmasterlaw06_PageGreatest.f
  rw [head_p 1000 (by omega), Option.bind_some, if_pos rfl]
  have h := great_l0 a0 m (by omega) 7 0 1000 (by omega) (by omega)
  simpa [KS, VS, KD] using h

end Go.Proofs.Ytopfaeefhicljaa.Pure
