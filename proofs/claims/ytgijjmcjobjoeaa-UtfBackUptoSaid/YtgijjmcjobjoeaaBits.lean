import Derived.WalkKit
namespace Go.Proofs.Ytgijjmcjobjoeaa
theorem i32_and63 (p : Int) (h : 0 ≤ p ∧ p ≤ 2147483647) : bits .and .i32 p 63 = p % 64 := by
  obtain ⟨n, rfl⟩ := Int.eq_ofNat_of_zero_le h.1
  have e1 : (BitVec.ofInt 32 (n : Int)).toNat = n := by
    rw [BitVec.ofInt_natCast, BitVec.toNat_ofNat]; exact Nat.mod_eq_of_lt (by omega)
  show IntKind.i32.wrap ((BitVec.ofInt 32 (n : Int) &&& BitVec.ofInt 32 (63 : Int)).toNat : Int) = _
  rw [BitVec.toNat_and, e1, show (BitVec.ofInt 32 (63 : Int)).toNat = 2 ^ 6 - 1 from by decide, Nat.and_two_pow_sub_one_eq_mod]
  simp only [IntKind.wrap_i32]
  omega
theorem or_small (c : Int) (m : Nat) (h : ∀ x : Fin m, bits .or .i32 c (x.val : Int) = c + x.val) (x : Int) (hx : 0 ≤ x ∧ x < m) : bits .or .i32 c x = c + x := by
  obtain ⟨n, rfl⟩ := Int.eq_ofNat_of_zero_le hx.1
  exact h ⟨n, by omega⟩
theorem or_128 (x : Int) (h : 0 ≤ x ∧ x < 64) : bits .or .i32 128 x = 128 + x := or_small 128 64 (by decide +kernel) x h
theorem or_192 (x : Int) (h : 0 ≤ x ∧ x < 32) : bits .or .i32 192 x = 192 + x := or_small 192 32 (by decide +kernel) x h
theorem or_224 (x : Int) (h : 0 ≤ x ∧ x < 16) : bits .or .i32 224 x = 224 + x := or_small 224 16 (by decide +kernel) x h
theorem or_240 (x : Int) (h : 0 ≤ x ∧ x < 8) : bits .or .i32 240 x = 240 + x := or_small 240 8 (by decide +kernel) x h
end Go.Proofs.Ytgijjmcjobjoeaa
