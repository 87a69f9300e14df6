import Derived.Test.YtgijjmcjobjoeaaU4
namespace Go.Proofs.Ytgijjmcjobjoeaa
open Go.RowKit

/-- what is returned is a slice of bytes of the call's own, behind block B0 -/
def OwnB (B0 : Nat) (w : World) (n : Nat) (xs : List Int) (e : Ending) (w' : World) : Prop :=
  ∃ A c, e = .returned (.slice A n c) ∧ w'.ownsRow B0 5 1 (.slice A n c) n (xs.map (Value.int .u8)) ∧ Below B0 w w'

theorem own_lit {w : World} {B0 e : Nat} (vs : List Value) (n : Nat) (hn : vs.length = n) (h : n ≤ 1000) (hb : B0 ≤ w.heap.size) : (w.alloc (.cells vs.toArray e)).ownsRow B0 e 1 (.slice (some ⟨w.heap.size, 0, none⟩) n n) n vs := by
  have := World.ownsRow_lit (w := w) (base := B0) (e := e) (size := 1) vs.toArray n hb (by simp only [maxLen]; omega) (by simpa using hn)
  simpa using this

set_option maxHeartbeats 1000000 in
theorem bytes_any (p : Int) (hp : -9223372036854775808 ≤ p ∧ p ≤ 9223372036854775807) (w : World) :
    Calls Try.prog 22 #[.int .i64 p] w (OwnB w.heap.size w (encL p).length (encL p)) := by
  by_cases h0 : p < 0 ∨ 1114111 < p ∨ (55296 ≤ p ∧ p ≤ 57343)
  · have he : encL p = [] := by unfold encL; rw [if_pos h0]
    have hi : isF p = false := by unfold isF; simp; omega
    have He := Lib.hid he
    clear he h0
    go_enter Try.func22, Try.ntmps22
    go_wp2_with (go_at_call 35; refine (is_any _ _).mono ?_; rintro e w' ⟨rfl, rfl⟩)
    go_ret
    rw [He.out]
    exact ⟨none, 0, rfl, World.ownsRow_nil _ _ _ _, Below.refl _ _⟩
  have hi : isF p = true := by unfold isF; simp; omega
  have hp0 : 0 ≤ p := by omega
  have hp1 : p ≤ 1114111 := by omega
  by_cases h1 : p < 128
  · have he : encL p = [p] := by unfold encL; rw [if_neg h0, if_pos h1]
    have He := Lib.hid he
    clear he h0
    go_enter Try.func22, Try.ntmps22
    go_wp2_with (go_at_call 35; refine (is_any _ _).mono ?_; rintro e w' ⟨rfl, rfl⟩)
    go_ret
    rw [He.out]
    exact ⟨_, _, rfl, own_lit _ 1 rfl (by decide) (Nat.le_refl _), (Below.refl _ _).alloc (Nat.le_refl _) _⟩
  by_cases h2 : p < 2048
  · have he : encL p = [192 + p / 64, 128 + p % 64] := by unfold encL; rw [if_neg h0, if_neg h1, if_pos h2]
    have He := Lib.hid he
    clear he h0
    go_enter Try.func22, Try.ntmps22
    go_wp2_with (go_at_call 35; refine (is_any _ _).mono ?_; rintro e w' ⟨rfl, rfl⟩)
    go_ret
    rw [He.out]
    exact ⟨_, _, rfl, own_lit _ 2 rfl (by decide) (Nat.le_refl _), (Below.refl _ _).alloc (Nat.le_refl _) _⟩
  by_cases h3 : p < 65536
  · have he : encL p = [224 + p / 4096, 128 + p / 64 % 64, 128 + p % 64] := by unfold encL; rw [if_neg h0, if_neg h1, if_neg h2, if_pos h3]
    have He := Lib.hid he
    clear he h0
    go_enter Try.func22, Try.ntmps22
    go_wp2_with (go_at_call 35; refine (is_any _ _).mono ?_; rintro e w' ⟨rfl, rfl⟩)
    go_ret
    rw [He.out]
    exact ⟨_, _, rfl, own_lit _ 3 rfl (by decide) (Nat.le_refl _), (Below.refl _ _).alloc (Nat.le_refl _) _⟩
  have he : encL p = [240 + p / 262144, 128 + p / 4096 % 64, 128 + p / 64 % 64, 128 + p % 64] := by unfold encL; rw [if_neg h0, if_neg h1, if_neg h2, if_neg h3]
  have He := Lib.hid he
  clear he h0
  go_enter Try.func22, Try.ntmps22
  go_wp2_with (go_at_call 35; refine (is_any _ _).mono ?_; rintro e w' ⟨rfl, rfl⟩)
  go_ret
  rw [He.out]
  exact ⟨_, _, rfl, own_lit _ 4 rfl (by decide) (Nat.le_refl _), (Below.refl _ _).alloc (Nat.le_refl _) _⟩
end Go.Proofs.Ytgijjmcjobjoeaa
