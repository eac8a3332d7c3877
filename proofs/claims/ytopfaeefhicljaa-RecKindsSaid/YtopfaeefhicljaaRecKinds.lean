/- RecKinds: what a kind hasn't makes a record that isn't right. The plain law over the printed text. -/
import Derived.Test.YtopfaeefhicljaaR21
import Derived.Test.YtopfaeefhicljaaRcPure
import Derived.Laws.BitsLemmas
import Derived.Test.YtopfaeefhicljaaOpen
namespace Go.Proofs.Ytopfaeefhicljaa.Bits
open Go
theorem wraps_i64 (n : Int) (h₀ : 0 ≤ n) (h₁ : n < 2 ^ 63) : IntKind.i64.wrap n = n := by rw [IntKind.wrap_i64]; omega
theorem and_mask (x : Int) (i : Nat) (hi : i ≤ 62) : bits .and .i64 x (2 ^ i - 1) = x % 2 ^ i := by
  have hpos : 0 < 2 ^ i := Nat.two_pow_pos i
  have hle : 2 ^ i ≤ 2 ^ 62 := Nat.pow_le_pow_right (by decide) hi
  have hc : ((2 : Int) ^ i - 1) = ((2 ^ i - 1 : Nat) : Int) := by
    rw [Int.natCast_sub hpos]; simp
  have h1 : (2 ^ i - 1) % 2 ^ 64 = 2 ^ i - 1 := Nat.mod_eq_of_lt (by omega)
  have h3 : ((2 ^ i : Nat) : Int) ∣ ((2 ^ 64 : Nat) : Int) := Int.natCast_dvd_natCast.2 (Nat.pow_dvd_pow 2 (by omega))
  have hx : (BitVec.ofInt 64 x).toNat = (x % ((2 ^ 64 : Nat) : Int)).toNat := by simp [BitVec.toNat_ofInt]
  have h4 : ((((BitVec.ofInt 64 x).toNat % 2 ^ i : Nat)) : Int) = x % ((2 ^ i : Nat) : Int) := by
    rw [hx, Int.natCast_emod, Int.toNat_of_nonneg (Int.emod_nonneg _ (by decide))]
    exact Int.emod_emod_of_dvd x h3
  have e : bits .and .i64 x (2 ^ i - 1) = IntKind.i64.wrap ((((BitVec.ofInt 64 x).toNat % 2 ^ i : Nat)) : Int) := by
    rw [hc]
    show IntKind.i64.wrap (((BitVec.ofInt 64 x &&& BitVec.ofInt 64 ((2 ^ i - 1 : Nat) : Int)).toNat : Nat) : Int) = _
    rw [BitVec.toNat_and, BitVec.ofInt_natCast, BitVec.toNat_ofNat, h1, Nat.and_two_pow_sub_one_eq_mod]
  have hlt : (BitVec.ofInt 64 x).toNat % 2 ^ i < 2 ^ i := Nat.mod_lt _ hpos
  rw [e, wraps_i64 _ (by omega) (by omega), h4]
  simp
theorem and_7 (x : Int) : bits .and .i64 x 7 = x % 8 := and_mask x 3 (by decide)
theorem and_15 (x : Int) : bits .and .i64 x 15 = x % 16 := and_mask x 4 (by decide)
theorem and_31 (x : Int) : bits .and .i64 x 31 = x % 32 := and_mask x 5 (by decide)
theorem and_3 (x : Int) : bits .and .i64 x 3 = x % 4 := and_mask x 2 (by decide)
theorem and_127 (x : Int) : bits .and .i64 x 127 = x % 128 := and_mask x 7 (by decide)
theorem and_255 (x : Int) : bits .and .i64 x 255 = x % 256 := and_mask x 8 (by decide)
theorem and_511 (x : Int) : bits .and .i64 x 511 = x % 512 := and_mask x 9 (by decide)
theorem and_1023 (x : Int) : bits .and .i64 x 1023 = x % 1024 := and_mask x 10 (by decide)
theorem and_2047 (x : Int) : bits .and .i64 x 2047 = x % 2048 := and_mask x 11 (by decide)
theorem and_65535 (x : Int) : bits .and .i64 x 65535 = x % 65536 := and_mask x 16 (by decide)
end Go.Proofs.Ytopfaeefhicljaa.Bits
namespace Go.Proofs.Ytopfaeefhicljaa.RecKinds
open Go Go.RowKit Go.Proofs.Ytopfaeefhicljaa.Q Go.Proofs.Ytopfaeefhicljaa.Leb Go.Proofs.Ytopfaeefhicljaa.Str Go.Proofs.YtopfaeefhicljaaW.PrintWords
set_option linter.unusedVariables false
set_option linter.unusedSimpArgs false
def sk : ByteArray := ⟨#[107]⟩
def sx : ByteArray := ⟨#[120]⟩
def sa : ByteArray := ⟨#[97]⟩
def sb : ByteArray := ⟨#[98]⟩
def sz : ByteArray := ⟨#[122]⟩
def s0 : ByteArray := ⟨#[]⟩
theorem k7_r (a : Int) : 0 ≤ k7 a ∧ k7 a ≤ 7 := by
  show 0 ≤ bits .and .i64 a 7 ∧ bits .and .i64 a 7 ≤ 7
  rw [Bits.and_7]
  omega
theorem kd_r (a : Int) : 1 ≤ kd a ∧ kd a ≤ 8 := by
  have h := k7_r a
  show 1 ≤ wrap64 (1 + k7 a) ∧ wrap64 (1 + k7 a) ≤ 8
  rw [wrap64_id _ (by omega) (by omega)]
  omega
theorem clone_z (a b : Int) : rec_Open_Clone.f a b 0 0 0 false [sz] = some (a, b, 0, 0, 0, false, [sz]) := rfl
theorem rd_z : (rdOf ByteArray.empty [sz] 0).toList = ([122] : List UInt8) := by
  show sz.toList = _
  rw [ByteArray.toList_eq]
  rfl
theorem strs_z (k : Nat) : dockmasterlaw11_strs.f (k + 2) [sz] [sz] = some true := by
  unfold dockmasterlaw11_strs.f
  rw [if_pos rfl]
  simp only [dockmasterlaw11_strs.l0]
  rw [if_pos (by decide), if_pos (by decide), if_pos (by decide), if_pos (by decide), if_pos trivial, if_neg (show ¬ wrap64 (0 + 1) < (([sz] : List ByteArray).length : Int) by rw [wrap64_id _ (by omega) (by omega)]; decide)]
theorem alike_z (k : Nat) (a b : Int) : dockmasterlaw11_Alike.f (k + 2) a b 0 0 0 false [sz] a b 0 0 0 false [sz] = some true := by
  unfold dockmasterlaw11_Alike.f
  rw [if_pos (by simp), if_pos rfl, if_pos rfl, if_pos rfl, if_pos (by decide), strs_z]
  rfl
theorem j2_ok (k : Nat) (may : Bool) (t n kind num node : Int) (key : ByteArray) (was : Bool) (old : ByteArray) (prev : Int) (nodes : List Int) (reads : List ByteArray) (opens : List S56) (dones : List S58)
    (hf : rcFitB ⟨kind, num, node, key, was, old, prev, nodes, reads, [], opens, dones⟩ = true) (hr : rightR ⟨kind, num, node, key, was, old, prev, nodes, reads, [], opens, dones⟩ = may) :
    rk_.j2 (k + 3) may t n kind num node key was old prev nodes reads opens dones = some true := by
  simp only [rk_.j2]
  rw [Option.bind_some]
  show (rec_Open_Clone.f t n 0 0 0 false [sz]).bind _ = _
  rw [clone_z, Option.bind_some, if_pos (by show (0 : Int) < 1; decide)]
  unfold rec_Rec_Right.f
  rw [if_pos hf, Option.bind_some, hr, if_pos (by simp), if_pos (by decide)]
  show (if (rdOf ByteArray.empty [sz] 0).toList = ([122] : List UInt8) then (rec_Open_Clone.f t n 0 0 0 false [sz]).bind _ else _) = _
  rw [rd_z, if_pos rfl, clone_z, Option.bind_some]
  show ((dockmasterlaw11_Alike.f (k + 2) t n 0 0 0 false [sz] t n 0 0 0 false [sz]).bind _) = _
  rw [alike_z]
  rfl
theorem e_k : s0.toList = [] := by rw [ByteArray.toList_eq]; rfl
theorem t_k : sk.toList = [107] := by rw [ByteArray.toList_eq]; rfl
theorem t_x : sx.toList = [120] := by rw [ByteArray.toList_eq]; rfl
theorem t_a : sa.toList = [97] := by rw [ByteArray.toList_eq]; rfl
theorem t_b : sb.toList = [98] := by rw [ByteArray.toList_eq]; rfl
theorem keys_ab : keysB [sa, sb] = true := by
  show (riseAt [sa, sb] 0 && (riseAt [sa, sb] 1 && true)) && true = true
  have h0 : riseAt [sa, sb] 0 = true := by unfold riseAt; simp; decide
  have h1 : riseAt [sa, sb] 1 = true := by
    unfold riseAt
    show (decide (1 ≤ sb.size) && (decide (sb.size ≤ 24) && (decide (1 = 0) || Op.bytesLess sa.toList sb.toList))) = true
    rw [t_a, t_b]
    decide
  rw [h0, h1]
  rfl
theorem keys_z : keysB [sz] = true := by
  show (riseAt [sz] 0 && true) && true = true
  have h0 : riseAt [sz] 0 = true := by unfold riseAt; simp; decide
  rw [h0]
  rfl
theorem table_o (t n : Int) (ht : tidB t n = true) : tableB [⟨⟨t, n⟩, 0, 0, 0, false, [sz]⟩] [] = true := by
  show (opnAt [⟨⟨t, n⟩, 0, 0, 0, false, [sz]⟩] 0 && true) && true = true
  have h0 : opnAt [⟨⟨t, n⟩, 0, 0, 0, false, [sz]⟩] 0 = true := by
    show (!((((((!(tidB t n) || false) || false) || false) || false) || !(keysB [sz])) || (false && _))) = true
    rw [ht, keys_z]
    rfl
  rw [h0]
  rfl
theorem table_d (t n : Int) (ht : tidB t n = true) : tableB [] [⟨⟨t, n⟩, []⟩] = true := by
  show (true && ((dnAt [⟨⟨t, n⟩, []⟩] 0 && true) && true)) = true
  have h0 : dnAt [⟨⟨t, n⟩, []⟩] 0 = true := by
    show (!((!(tidB t n) || false) || (false && _))) = true
    rw [ht]
    rfl
  rw [h0]
  rfl
theorem fit_o (kind num node : Int) (key : ByteArray) (was : Bool) (old : ByteArray) (prev : Int) (o : S56) (h : o.f5.length ≤ 1000000) : rcFitB ⟨kind, num, node, key, was, old, prev, [], [], [], [o], []⟩ = true := by
  show (true && (true && (true && ((decide (o.f5.length ≤ 1000000) && true) && true)))) = true
  rw [decide_eq_true h]
  rfl
theorem j1_ok (k : Nat) (kind field t n num node : Int) (key : ByteArray) (ht : tidB t n = true) (hk : 1 ≤ kind ∧ kind ≤ 8)
    (h8 : (kind = 8 ∧ num = 0 ∧ node = 0) ∨ (kind ≠ 8 ∧ num = t ∧ node = n)) (h1 : (kind = 1 ∧ key = sk) ∨ (kind ≠ 1 ∧ key = s0)) :
    rk_.j1 (k + 4) kind field t n kind num node key false s0 0 = some true := by
  have hz : tidB num node = true := by
    rcases h8 with ⟨_, rfl, rfl⟩ | ⟨_, rfl, rfl⟩
    · rfl
    · exact ht
  have h8b : ((kind == 8) && !((num == 0) && (node == 0))) = false := by
    rcases h8 with ⟨_, rfl, rfl⟩ | ⟨h, _, _⟩
    · simp
    · simp [h]
  have hf := k7_r field
  simp only [rk_.j1]
  have ev : ∀ (was : Bool) (ky old : ByteArray) (prev : Int) (nodes : List Int) (reads : List ByteArray) (opens : List S56) (dones : List S58),
      rightR ⟨kind, num, node, ky, was, old, prev, nodes, reads, [], opens, dones⟩ =
        (!(RcV.b4 ⟨kind, num, node, ky, was, old, prev, nodes, reads, [], opens, dones⟩) && (!(RcV.b6 ⟨kind, num, node, ky, was, old, prev, nodes, reads, [], opens, dones⟩) && (!(RcV.b8 ⟨kind, num, node, ky, was, old, prev, nodes, reads, [], opens, dones⟩) && (!(RcV.b10 ⟨kind, num, node, ky, was, old, prev, nodes, reads, [], opens, dones⟩) && (!(RcV.b12 ⟨kind, num, node, ky, was, old, prev, nodes, reads, [], opens, dones⟩) && (!(RcV.b14 ⟨kind, num, node, ky, was, old, prev, nodes, reads, [], opens, dones⟩) && tableB opens dones)))))) := by
    intro was ky old prev nodes reads opens dones
    unfold rightR RcV.b16 RcV.b2
    dsimp only
    rw [hz, h8b, decide_eq_false (show ¬ kind < 1 by omega), decide_eq_false (show ¬ 8 < kind by omega), show pagesB [] = true from rfl]
    rfl
  have hbase : rec_Rec_Right.f (k + 3) kind num node key false s0 0 [] [] [] [] [] = some true := by
    unfold rec_Rec_Right.f
    rw [if_pos (by rfl), ev, show tableB [] [] = true from rfl]
    clear ev h8b h8
    obtain rfl | rfl | rfl | rfl | rfl | rfl | rfl | rfl : kind = 1 ∨ kind = 2 ∨ kind = 3 ∨ kind = 4 ∨ kind = 5 ∨ kind = 6 ∨ kind = 7 ∨ kind = 8 := by omega
    all_goals
      rcases h1 with ⟨h, rfl⟩ | ⟨h, rfl⟩
      all_goals
        first
        | exact absurd h (by decide)
        | exact absurd rfl h
        | (unfold RcV.b4 RcV.b6 RcV.b8 RcV.b10 RcV.b12 RcV.b14; dsimp only; simp only [e_k, t_k]; rfl)
  rw [show (rec_Rec_Right.f (k + 3) kind num node key false s0 0 [] [] [] [] []) = some true from hbase, Option.bind_some, if_pos rfl]
  have T00 : tableB [] [] = true := rfl
  have hq : k7 field = 0 ∨ k7 field = 1 ∨ k7 field = 2 ∨ k7 field = 3 ∨ k7 field = 4 ∨ k7 field = 5 ∨ k7 field = 6 ∨ k7 field = 7 := by omega
  rcases hq with h | h | h | h | h | h | h | h
  · rw [if_pos h]
    refine j2_ok k _ t n kind num node sx false s0 0 [] [] [] [] (by rfl) ?_
    rw [ev, T00]
    clear ev h8b h8 hbase
    obtain rfl | rfl | rfl | rfl | rfl | rfl | rfl | rfl : kind = 1 ∨ kind = 2 ∨ kind = 3 ∨ kind = 4 ∨ kind = 5 ∨ kind = 6 ∨ kind = 7 ∨ kind = 8 := by omega
    all_goals (unfold RcV.b4 RcV.b6 RcV.b8 RcV.b10 RcV.b12 RcV.b14; dsimp only; simp only [e_k, t_k, t_x]; rfl)
  · rw [if_neg (by omega), if_pos h]
    refine j2_ok k _ t n kind num node key true s0 0 [] [] [] [] (by rfl) ?_
    rw [ev, T00]
    clear ev h8b h8 hbase
    obtain rfl | rfl | rfl | rfl | rfl | rfl | rfl | rfl : kind = 1 ∨ kind = 2 ∨ kind = 3 ∨ kind = 4 ∨ kind = 5 ∨ kind = 6 ∨ kind = 7 ∨ kind = 8 := by omega
    all_goals
      rcases h1 with ⟨h, rfl⟩ | ⟨h, rfl⟩
      all_goals
        first
        | exact absurd h (by decide)
        | exact absurd rfl h
        | (unfold RcV.b4 RcV.b6 RcV.b8 RcV.b10 RcV.b12 RcV.b14; dsimp only; simp only [e_k, t_k]; rfl)
  · rw [if_neg (by omega), if_neg (by omega), if_pos h]
    refine j2_ok k _ t n kind num node key false s0 5 [] [] [] [] (by rfl) ?_
    rw [ev, T00]
    clear ev h8b h8 hbase
    obtain rfl | rfl | rfl | rfl | rfl | rfl | rfl | rfl : kind = 1 ∨ kind = 2 ∨ kind = 3 ∨ kind = 4 ∨ kind = 5 ∨ kind = 6 ∨ kind = 7 ∨ kind = 8 := by omega
    all_goals
      rcases h1 with ⟨h, rfl⟩ | ⟨h, rfl⟩
      all_goals
        first
        | exact absurd h (by decide)
        | exact absurd rfl h
        | (unfold RcV.b4 RcV.b6 RcV.b8 RcV.b10 RcV.b12 RcV.b14; dsimp only; simp only [e_k, t_k]; rfl)
  · rw [if_neg (by omega), if_neg (by omega), if_neg (by omega), if_pos h]
    refine j2_ok k _ t n kind num node key false s0 0 [1, 5] [] [] [] (by rfl) ?_
    rw [ev, T00]
    clear ev h8b h8 hbase
    obtain rfl | rfl | rfl | rfl | rfl | rfl | rfl | rfl : kind = 1 ∨ kind = 2 ∨ kind = 3 ∨ kind = 4 ∨ kind = 5 ∨ kind = 6 ∨ kind = 7 ∨ kind = 8 := by omega
    all_goals
      rcases h1 with ⟨h, rfl⟩ | ⟨h, rfl⟩
      all_goals
        first
        | exact absurd h (by decide)
        | exact absurd rfl h
        | (unfold RcV.b4 RcV.b6 RcV.b8 RcV.b10 RcV.b12 RcV.b14; dsimp only; simp only [e_k, t_k]; rfl)
  · rw [if_neg (by omega), if_neg (by omega), if_neg (by omega), if_neg (by omega), if_pos h]
    refine j2_ok k _ t n kind num node key false s0 0 [] [sa, sb] [] [] (by rfl) ?_
    rw [ev, T00]
    clear ev h8b h8 hbase
    obtain rfl | rfl | rfl | rfl | rfl | rfl | rfl | rfl : kind = 1 ∨ kind = 2 ∨ kind = 3 ∨ kind = 4 ∨ kind = 5 ∨ kind = 6 ∨ kind = 7 ∨ kind = 8 := by omega
    all_goals
      rcases h1 with ⟨h, rfl⟩ | ⟨h, rfl⟩
      all_goals
        first
        | exact absurd h (by decide)
        | exact absurd rfl h
        | (unfold RcV.b4 RcV.b6 RcV.b8 RcV.b10 RcV.b12 RcV.b14; dsimp only; simp only [e_k, t_k, keys_ab]; rfl)
  · rw [if_neg (by omega), if_neg (by omega), if_neg (by omega), if_neg (by omega), if_neg (by omega), if_pos h]
    refine j2_ok k _ t n kind num node key false s0 0 [] [] [⟨⟨t, n⟩, 0, 0, 0, false, [sz]⟩] [] (fit_o _ _ _ _ _ _ _ _ (by show 1 ≤ 1000000; decide)) ?_
    rw [ev, table_o t n ht]
    clear ev h8b h8 hbase
    obtain rfl | rfl | rfl | rfl | rfl | rfl | rfl | rfl : kind = 1 ∨ kind = 2 ∨ kind = 3 ∨ kind = 4 ∨ kind = 5 ∨ kind = 6 ∨ kind = 7 ∨ kind = 8 := by omega
    all_goals
      rcases h1 with ⟨h, rfl⟩ | ⟨h, rfl⟩
      all_goals
        first
        | exact absurd h (by decide)
        | exact absurd rfl h
        | (unfold RcV.b4 RcV.b6 RcV.b8 RcV.b10 RcV.b12 RcV.b14; dsimp only; simp only [e_k, t_k]; rfl)
  · rw [if_neg (by omega), if_neg (by omega), if_neg (by omega), if_neg (by omega), if_neg (by omega), if_neg (by omega), if_pos h]
    refine j2_ok k _ t n kind num node key false s0 0 [] [] [] [⟨⟨t, n⟩, []⟩] (by rfl) ?_
    rw [ev, table_d t n ht]
    clear ev h8b h8 hbase
    obtain rfl | rfl | rfl | rfl | rfl | rfl | rfl | rfl : kind = 1 ∨ kind = 2 ∨ kind = 3 ∨ kind = 4 ∨ kind = 5 ∨ kind = 6 ∨ kind = 7 ∨ kind = 8 := by omega
    all_goals
      rcases h1 with ⟨h, rfl⟩ | ⟨h, rfl⟩
      all_goals
        first
        | exact absurd h (by decide)
        | exact absurd rfl h
        | (unfold RcV.b4 RcV.b6 RcV.b8 RcV.b10 RcV.b12 RcV.b14; dsimp only; simp only [e_k, t_k]; rfl)
  · rw [if_neg (by omega), if_neg (by omega), if_neg (by omega), if_neg (by omega), if_neg (by omega), if_neg (by omega), if_neg (by omega)]
    refine j2_ok k _ t n kind num node key false sx 0 [] [] [] [] (by rfl) ?_
    rw [ev, T00]
    clear ev h8b h8 hbase
    obtain rfl | rfl | rfl | rfl | rfl | rfl | rfl | rfl : kind = 1 ∨ kind = 2 ∨ kind = 3 ∨ kind = 4 ∨ kind = 5 ∨ kind = 6 ∨ kind = 7 ∨ kind = 8 := by omega
    all_goals
      rcases h1 with ⟨h, rfl⟩ | ⟨h, rfl⟩
      all_goals
        first
        | exact absurd h (by decide)
        | exact absurd rfl h
        | (unfold RcV.b4 RcV.b6 RcV.b8 RcV.b10 RcV.b12 RcV.b14; dsimp only; simp only [e_k, t_k, t_x]; rfl)
theorem head_t (k : Nat) : dockmasterlaw11_head.f k = some true := by
  unfold dockmasterlaw11_head.f rec_Encode.f
  rw [if_pos (by rfl), Option.bind_some, if_pos rfl]
  show some ((strOfNums [4, 5, 1]).toList == ([4, 5, 1] : List UInt8)) = some true
  rw [ByteArray.toList_eq]
  rfl
theorem law_f (a0 a1 t n : Int) : dockmasterlaw11_RecKinds.f 10 a0 a1 t n = some true := by
  unfold dockmasterlaw11_RecKinds.f
  rw [head_t, Option.bind_some, if_pos rfl]
  have ht : dockmasterlaw11_tid.f t n = some (tidB t n) := tid_f t n
  rw [ht, Option.bind_some]
  cases htb : tidB t n with
  | false => rw [if_neg (by decide)]
  | true =>
    rw [if_pos rfl]
    have hk := kd_r a0
    by_cases h8 : kd a0 = 8
    · rw [if_pos h8]
      show rk_.j0 10 _ _ _ _ _ _ _ s0 _ s0 _ = _
      simp only [rk_.j0]
      rw [if_neg (by omega)]
      exact j1_ok 5 (kd a0) a1 t n 0 0 s0 htb hk (.inl ⟨h8, rfl, rfl⟩) (.inr ⟨by omega, rfl⟩)
    · rw [if_neg h8]
      show rk_.j0 10 _ _ _ _ _ _ _ s0 _ s0 _ = _
      simp only [rk_.j0]
      by_cases h1 : kd a0 = 1
      · rw [if_pos h1]
        exact j1_ok 5 (kd a0) a1 t n t n sk htb hk (.inr ⟨h8, rfl, rfl⟩) (.inl ⟨h1, rfl⟩)
      · rw [if_neg h1]
        exact j1_ok 5 (kd a0) a1 t n t n s0 htb hk (.inr ⟨h8, rfl, rfl⟩) (.inr ⟨h1, rfl⟩)
theorem law_ok (a0 a1 t n : Int) (w : World) (_ : (Lit.int .i64 a0).wf = true) (_ : (Lit.int .i64 a1).wf = true) (_ : (Lit.int .u64 t).wf = true) (_ : (Lit.int .i64 n).wf = true) :
    Calls Try.prog 10 #[.int .i64 a0, .int .i64 a1, .agg #[.int .u64 t, .int .i64 n]] w fun e w' => e = .returned (.bool true) ∧ Below w.heap.size w w' :=
  dockmasterlaw11_RecKinds.calls 10 a0 a1 t n true w (law_f a0 a1 t n)
end Go.Proofs.Ytopfaeefhicljaa.RecKinds
