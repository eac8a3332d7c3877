/- x & (2^i - 1) of an int: the rest of a division. For i up to 62. -/
import Derived.Laws.BitsLemmas
namespace Go.Proofs.Ytihmfccpgahmaaa.Bits
open Go
theorem wraps_i64 (n : Int) (h₀ : 0 ≤ n) (h₁ : n < 2 ^ 63) : IntKind.i64.wrap n = n := by rw [IntKind.wrap_i64]; omega
theorem and_mask (x : Int) (i : Nat) (hi : i ≤ 62) : bits .and .i64 x (2 ^ i - 1) = x % 2 ^ i := by
  have hpos : 0 < 2 ^ i := Nat.two_pow_pos i
  have hle : 2 ^ i ≤ 2 ^ 62 := Nat.pow_le_pow_right (by decide) hi
  have hc : ((2 : Int) ^ i - 1) = ((2 ^ i - 1 : Nat) : Int) := by
    rw [Int.natCast_sub hpos]; simp
  have h1 : (2 ^ i - 1) % 2 ^ 64 = 2 ^ i - 1 := Nat.mod_eq_of_lt (by omega)
  have h3 : ((2 ^ i : Nat) : Int) ∣ ((2 ^ 64 : Nat) : Int) := Int.natCast_dvd_natCast.2 (Nat.pow_dvd_pow 2 (by omega))
  have hx : (BitVec.ofInt 64 x).toNat = (x % ((2 ^ 64 : Nat) : Int)).toNat := by simp [BitVec.toNat_ofInt]
  have h4 : ((((BitVec.ofInt 64 x).toNat % 2 ^ i : Nat)) : Int) = x % ((2 ^ i : Nat) : Int) := by
    rw [hx, Int.natCast_emod, Int.toNat_of_nonneg (Int.emod_nonneg _ (by decide))]
    exact Int.emod_emod_of_dvd x h3
  have e : bits .and .i64 x (2 ^ i - 1) = IntKind.i64.wrap ((((BitVec.ofInt 64 x).toNat % 2 ^ i : Nat)) : Int) := by
    rw [hc]
    show IntKind.i64.wrap (((BitVec.ofInt 64 x &&& BitVec.ofInt 64 ((2 ^ i - 1 : Nat) : Int)).toNat : Nat) : Int) = _
    rw [BitVec.toNat_and, BitVec.ofInt_natCast, BitVec.toNat_ofNat, h1, Nat.and_two_pow_sub_one_eq_mod]
  have hlt : (BitVec.ofInt 64 x).toNat % 2 ^ i < 2 ^ i := Nat.mod_lt _ hpos
  rw [e, wraps_i64 _ (by omega) (by omega), h4]
  simp
theorem and_7 (x : Int) : bits .and .i64 x 7 = x % 8 := and_mask x 3 (by decide)
theorem and_15 (x : Int) : bits .and .i64 x 15 = x % 16 := and_mask x 4 (by decide)
theorem and_31 (x : Int) : bits .and .i64 x 31 = x % 32 := and_mask x 5 (by decide)
theorem and_3 (x : Int) : bits .and .i64 x 3 = x % 4 := and_mask x 2 (by decide)
theorem and_127 (x : Int) : bits .and .i64 x 127 = x % 128 := and_mask x 7 (by decide)
theorem and_255 (x : Int) : bits .and .i64 x 255 = x % 256 := and_mask x 8 (by decide)
theorem and_511 (x : Int) : bits .and .i64 x 511 = x % 512 := and_mask x 9 (by decide)
theorem and_1023 (x : Int) : bits .and .i64 x 1023 = x % 1024 := and_mask x 10 (by decide)
theorem and_2047 (x : Int) : bits .and .i64 x 2047 = x % 2048 := and_mask x 11 (by decide)
theorem and_65535 (x : Int) : bits .and .i64 x 65535 = x % 65536 := and_mask x 16 (by decide)
end Go.Proofs.Ytihmfccpgahmaaa.Bits
