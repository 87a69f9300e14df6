import Derived.Test.YtebfnglhbfkkdaaF5
namespace Go.Proofs.Ytebfnglhbfkkdaa
open Go.RowKit

theorem stopQ_any (x : Int) (w : World) : Calls Try.prog 30 #[.int .u8 x] w fun e w' => e = .returned (.bool (x == 34)) ∧ w = w' := by
  go_enter Try.func30, Try.ntmps30
  go_wp2
  go_ret
  exact ⟨rfl, rfl⟩

theorem stopE_any (x : Int) (w : World) : Calls Try.prog 31 #[.int .u8 x] w fun e w' => e = .returned (.bool (x == 32 || x == 34)) ∧ w = w' := by
  go_enter Try.func31, Try.ntmps31
  by_cases h1 : x = 32
  · have b1 : (x == 32) = true := beq_iff_eq.2 h1
    have Hr : Hid ((x == 32 || x == 34) = true) := Lib.hid (by rw [b1]; rfl)
    go_wp2
    go_ret
    exact ⟨ret_bool Hr.out.symm, rfl⟩
  · have b1 : (x == 32) = false := beq_eq_false_iff_ne.2 h1
    have Hr : Hid ((x == 32 || x == 34) = (x == 34)) := Lib.hid (by rw [b1]; rfl)
    go_wp2
    go_ret
    exact ⟨ret_bool Hr.out.symm, rfl⟩

theorem ret_two {a b c d : ByteArray} (h : a = c) (h2 : b = d) : Ending.returned (.tuple #[.string a, .string b]) = .returned (.tuple #[.string c, .string d]) := by rw [h, h2]

set_option maxHeartbeats 1000000 in
theorem untilQ_any (s : ByteArray) (hs : s.size ≤ 1000000) (w : World) :
    Calls Try.prog 33 #[.string s, .func (.func 30) #[] #[]] w fun en w' => ∃ e, e ≤ s.size ∧ NoQ s 0 e ∧ (∀ hj : e < s.size, ((s[e]'hj).toNat : Int) = 34) ∧ en = .returned (.tuple #[.string (s.extract 0 e), .string (s.extract e s.size)]) ∧ Dr w w' := by
  go_enter Try.func33, Try.ntmps33
  go_wp2
  go_loopw [9] (fun i wr => ∃ k : Nat, k ≤ s.size ∧ i = .int .i64 k ∧ Hid (NoQ s 0 k) ∧ w = wr) (fun i _ => s.size - (intOf i).toNat)
  case atStart => exact ⟨0, Nat.zero_le _, rfl, Lib.hid (NoQ.nil _ _), rfl⟩
  case round =>
    obtain ⟨k, hk, rfl, Hn, rfl⟩ := hrel
    by_cases hlt : k < s.size
    · by_cases hx : ((s[k]'hlt).toNat : Int) = 34
      · have b1 : (((s[k]'hlt).toNat : Int) == 34) = true := beq_iff_eq.2 hx
        go_wp2_with fail
        refine (stopQ_any _ _).mono ?_
        rintro e w1 ⟨rfl, rfl⟩
        go_wp2
        go_quiet (fail)
        go_wp2
        go_ret2
        exact ⟨k, by omega, Hn.out, fun _ => hx, rfl, ⟨_, rfl⟩⟩
      · have b1 : (((s[k]'hlt).toNat : Int) == 34) = false := beq_eq_false_iff_ne.2 hx
        have Hn2 := Lib.hid (Hn.out.succ hlt hx)
        go_wp2_with fail
        refine (stopQ_any _ _).mono ?_
        rintro e w1 ⟨rfl, rfl⟩
        go_wp2
        go_roundw
        case rel => exact ⟨k + 1, by omega, by go_num, Hn2, trivial⟩
        case measure => simp [intOf]; omega
    · have hks : k = s.size := by omega
      have Hks := Lib.hid hks
      clear hks
      go_wp2
      go_ret2
      refine ⟨k, by omega, Hn.out, fun hj => absurd hj hlt, ret_two ?_ ?_, ⟨0, rfl⟩⟩
      · rw [Hks.out, ByteArray.extract_zero_size]
      · rw [Hks.out]; apply bytes_ext; simp

set_option maxHeartbeats 1000000 in
theorem untilE_any (s : ByteArray) (hs : s.size ≤ 1000000) (w : World) :
    Calls Try.prog 33 #[.string s, .func (.func 31) #[] #[]] w fun en w' => ∃ e, e ≤ s.size ∧ NoQB s 0 e ∧ (∀ hj : e < s.size, ((s[e]'hj).toNat : Int) = 32 ∨ ((s[e]'hj).toNat : Int) = 34) ∧ en = .returned (.tuple #[.string (s.extract 0 e), .string (s.extract e s.size)]) ∧ Dr w w' := by
  go_enter Try.func33, Try.ntmps33
  go_wp2
  go_loopw [9] (fun i wr => ∃ k : Nat, k ≤ s.size ∧ i = .int .i64 k ∧ Hid (NoQB s 0 k) ∧ w = wr) (fun i _ => s.size - (intOf i).toNat)
  case atStart => exact ⟨0, Nat.zero_le _, rfl, Lib.hid (NoQB.nil _ _), rfl⟩
  case round =>
    obtain ⟨k, hk, rfl, Hn, rfl⟩ := hrel
    by_cases hlt : k < s.size
    · by_cases hx : ((s[k]'hlt).toNat : Int) = 32 ∨ ((s[k]'hlt).toNat : Int) = 34
      · have b1 : (((s[k]'hlt).toNat : Int) == 32 || ((s[k]'hlt).toNat : Int) == 34) = true := by
          rcases hx with h | h <;> rw [h] <;> rfl
        have Hx := Lib.hid hx
        clear hx
        go_wp2_with fail
        refine (stopE_any _ _).mono ?_
        rintro e w1 ⟨rfl, rfl⟩
        rw [b1]
        go_wp2
        go_quiet (fail)
        go_wp2
        go_ret2
        exact ⟨k, by omega, Hn.out, fun _ => Hx.out, rfl, ⟨_, rfl⟩⟩
      · have hx1 : ((s[k]'hlt).toNat : Int) ≠ 32 := fun h => hx (.inl h)
        have hx2 : ((s[k]'hlt).toNat : Int) ≠ 34 := fun h => hx (.inr h)
        have b1 : (((s[k]'hlt).toNat : Int) == 32 || ((s[k]'hlt).toNat : Int) == 34) = false := by
          rw [beq_eq_false_iff_ne.2 hx1, beq_eq_false_iff_ne.2 hx2]; rfl
        have Hn2 := Lib.hid (Hn.out.succ hlt hx1 hx2)
        clear hx hx1 hx2
        go_wp2_with fail
        refine (stopE_any _ _).mono ?_
        rintro e w1 ⟨rfl, rfl⟩
        rw [b1]
        go_wp2
        go_roundw
        case rel => exact ⟨k + 1, by omega, by go_num, Hn2, trivial⟩
        case measure => simp [intOf]; omega
    · have hks : k = s.size := by omega
      have Hks := Lib.hid hks
      clear hks
      go_wp2
      go_ret2
      refine ⟨k, by omega, Hn.out, fun hj => absurd hj hlt, ret_two ?_ ?_, ⟨0, rfl⟩⟩
      · rw [Hks.out, ByteArray.extract_zero_size]
      · rw [Hks.out]; apply bytes_ext; simp
end Go.Proofs.Ytebfnglhbfkkdaa
