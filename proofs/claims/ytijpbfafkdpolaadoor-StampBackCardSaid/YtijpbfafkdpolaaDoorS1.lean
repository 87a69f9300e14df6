import Derived.Test.YtijpbfafkdpolaaDoorRows
import Derived.Test.YtijpbfafkdpolaaDoorP1
import Derived.WalkLawsBesides
import Derived.Deep.QuietTactic
import Derived.BigQuiet
import Derived.Shelf.Abstract
import Derived.Shelf.RegionOpen
import Derived.Lib.Hide
namespace Go.Proofs.YtijpbfafkdpolaaDoor
open Go.RowKit Go.Shelf

theorem ret_bool {a b : Bool} (h : a = b) : Ending.returned (.bool a) = Ending.returned (.bool b) := by rw [h]
theorem leap_at (y : Int) (r : Bool) (hr : leapF y = r) : r = true ↔ ((y % 4 = 0 ∧ ¬ y % 100 = 0) ∨ y % 400 = 0) := by rw [← hr]; exact leapF_iff y
set_option maxHeartbeats 1000000 in
theorem leap_any (y : Int) (h0 : 0 ≤ y) (h1 : y ≤ 10000) (w : World) : Calls Tryd.prog 47 #[.int .i64 y] w fun e w' => e = .returned (.bool (leapF y)) ∧ w = w' := by
  rcases (by omega : (y % 4 ≠ 0 ∧ y % 400 ≠ 0) ∨ (y % 4 = 0 ∧ y % 100 ≠ 0) ∨ (y % 4 = 0 ∧ y % 100 = 0 ∧ y % 400 = 0) ∨ (y % 4 = 0 ∧ y % 100 = 0 ∧ y % 400 ≠ 0)) with ⟨a, b⟩ | ⟨a, b⟩ | ⟨a, b, c⟩ | ⟨a, b, c⟩
  all_goals
    go_enter Tryd.func47, Tryd.ntmps47
    go_wp2
    go_ret
    exact ⟨ret_bool (by rw [Bool.eq_iff_iff, leapF_iff]; simp only [Bool.false_eq_true, true_iff, false_iff, bne_iff_ne, beq_iff_eq]; omega), rfl⟩
set_option maxHeartbeats 1000000 in
theorem month_any (y m : Int) (h0 : 0 ≤ y) (h1 : y ≤ 10000) (g0 : 1 ≤ m) (g1 : m ≤ 12) (w : World) : Calls Tryd.prog 27 #[.int .i64 y, .int .i64 m] w fun e w' => e = .returned (.int .i64 (longF y m)) ∧ w = w' := by
  rcases (by omega : m = 2 ∨ m = 4 ∨ m = 6 ∨ m = 9 ∨ m = 11 ∨ (m ≠ 2 ∧ m ≠ 4 ∧ m ≠ 6 ∧ m ≠ 9 ∧ m ≠ 11)) with rfl | rfl | rfl | rfl | rfl | ⟨a, b, c, d, e⟩
  case inl =>
    have H : Hid (longF y 2 = if leapF y = true then 29 else 28) := Lib.hid rfl
    go_enter Tryd.func27, Tryd.ntmps27
    go_wp2_with fail
    refine (leap_any y h0 h1 _).mono ?_
    rintro e w1 ⟨rfl, rfl⟩
    cases h : leapF y with
    | true =>
      rw [h, if_pos rfl] at H
      go_wp2_with fail
      go_ret
      exact ⟨by rw [H.out]; rfl, rfl⟩
    | false =>
      rw [h, if_neg (by decide)] at H
      go_wp2_with fail
      go_ret
      exact ⟨by rw [H.out]; rfl, rfl⟩
  all_goals
    go_enter Tryd.func27, Tryd.ntmps27
    go_wp2
    go_ret
    exact ⟨by unfold longF; simp [*], rfl⟩
set_option maxHeartbeats 1000000 in
theorem rlong_any (y m : Int) (h0 : 0 ≤ y) (h1 : y ≤ 10000) (g0 : 1 ≤ m) (g1 : m ≤ 12) (w : World) : Calls Tryd.prog 29 #[.int .i64 y, .int .i64 m] w fun e w' => e = .returned (.int .i64 (longF y m)) ∧ w = w' := by
  rcases (by omega : m = 2 ∨ m = 4 ∨ m = 6 ∨ m = 9 ∨ m = 11 ∨ (m ≠ 2 ∧ m ≠ 4 ∧ m ≠ 6 ∧ m ≠ 9 ∧ m ≠ 11)) with rfl | rfl | rfl | rfl | rfl | ⟨a, b, c, d, e⟩
  case inl =>
    rcases (by omega : (y % 4 ≠ 0 ∧ y % 400 ≠ 0) ∨ (y % 4 = 0 ∧ y % 100 ≠ 0 ∧ y % 400 ≠ 0) ∨ (y % 4 = 0 ∧ y % 100 = 0 ∧ y % 400 = 0) ∨ (y % 4 = 0 ∧ y % 100 = 0 ∧ y % 400 ≠ 0)) with ⟨a, b⟩ | ⟨a, b, c⟩ | ⟨a, b, c⟩ | ⟨a, b, c⟩
    case inr.inl =>
      have q : (y % 400 == 0 || y % 100 != 0) = true := by simp; omega
      go_enter Tryd.func29, Tryd.ntmps29
      go_wp2
      go_ret
      refine ⟨?_, rfl⟩
      have hl := leapF_iff y
      unfold longF
      rw [if_pos rfl]
      rw [if_pos (hl.2 (by omega))]; rfl
    all_goals
      go_enter Tryd.func29, Tryd.ntmps29
      go_wp2
      go_ret
      refine ⟨?_, rfl⟩
      have hl := leapF_iff y
      unfold longF
      rw [if_pos rfl]
      first
        | rw [if_pos (hl.2 (by omega))]; rfl
        | rw [if_neg (fun h => absurd (hl.1 h) (by omega))]; rfl
  case inr.inr.inr.inr.inr =>
    have q : (m == 4 || m == 6 || m == 9 || m == 11) = false := by simp; omega
    go_enter Tryd.func29, Tryd.ntmps29
    go_wp2
    go_ret
    exact ⟨by unfold longF; simp [*], rfl⟩
  all_goals
    go_enter Tryd.func29, Tryd.ntmps29
    go_wp2
    go_ret
    exact ⟨by unfold longF; simp [*], rfl⟩
set_option maxHeartbeats 1000000 in
theorem ahead_any (y : Int) (h0 : 0 ≤ y) (h1 : y ≤ 10000) (w : World) : Calls Tryd.prog 28 #[.int .i64 y] w fun e w' => e = .returned (.int .i64 (aheadF y)) ∧ w = w' := by
  rcases (by omega : y = 0 ∨ 1 ≤ y) with h | h
  all_goals
    go_enter Tryd.func28, Tryd.ntmps28
    go_wp2
    go_ret
    refine ⟨?_, rfl⟩
    unfold aheadF
    first
      | rw [if_pos h]; rfl
      | rw [if_neg (by omega)]; rfl
end Go.Proofs.YtijpbfafkdpolaaDoor
