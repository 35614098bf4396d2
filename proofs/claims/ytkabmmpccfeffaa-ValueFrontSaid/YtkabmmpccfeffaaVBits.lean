/- Bits of a byte, as arithmetic. -/
import Derived.Test.YtkabmmpccfeffaaVStack
namespace Go.Proofs.Ytkabmmpccfeffaa
open Go.RowKit
set_option maxRecDepth 100000 in
theorem and31 : ∀ x : Nat, x < 256 → bits .and .u8 (x : Int) 31 = (x : Int) % 32 := by decide
set_option maxRecDepth 100000 in
theorem and32 : ∀ x : Nat, x < 256 → (bits .and .u8 (x : Int) 32 != 0) = decide ((x : Int) / 32 % 2 = 1) := by decide
set_option maxRecDepth 100000 in
theorem and127 : ∀ x : Nat, x < 256 → bits .and .u8 (x : Int) 127 = (x : Int) % 128 := by decide
theorem bits_or_i64_nat (a b : Nat) (ha : a < 9223372036854775808) (hb : b < 9223372036854775808) : bits .or .i64 (a : Int) (b : Int) = ((a ||| b : Nat) : Int) := by
  have hx : a ||| b < 2 ^ 63 := Nat.or_lt_two_pow (by omega) (by omega)
  have h1 : (BitVec.ofInt 64 (a : Int)).toNat = a := by
    rw [BitVec.ofInt_natCast, BitVec.toNat_ofNat]; exact Nat.mod_eq_of_lt (by omega)
  have h2 : (BitVec.ofInt 64 (b : Int)).toNat = b := by
    rw [BitVec.ofInt_natCast, BitVec.toNat_ofNat]; exact Nat.mod_eq_of_lt (by omega)
  show IntKind.i64.wrap ((BitVec.ofInt 64 (a : Int) ||| BitVec.ofInt 64 (b : Int)).toNat : Int) = _
  rw [BitVec.toNat_or, h1, h2]
  exact IntWalk.i64_in _ (by omega)
/-- Seven bits more. -/
theorem or_add (a b : Nat) (ha : a ≤ 268435455) (hb : b < 128) : bits .or .i64 ((a : Int) * 128) (b : Int) = (a : Int) * 128 + b := by
  have e : ((a : Int) * 128) = ((a * 128 : Nat) : Int) := by omega
  rw [e, bits_or_i64_nat _ _ (by omega) (by omega)]
  have h := Nat.two_pow_add_eq_or_of_lt (i := 7) (b := b) (by omega) a
  have h2 : a * 128 ||| b = a * 128 + b := by
    rw [show a * 128 = 2 ^ 7 * a by omega]
    exact h.symm
  rw [h2]
  omega
end Go.Proofs.Ytkabmmpccfeffaa
