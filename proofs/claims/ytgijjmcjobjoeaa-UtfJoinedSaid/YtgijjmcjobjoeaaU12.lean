import Derived.Test.YtgijjmcjobjoeaaU9
import Derived.Test.YtgijjmcjobjoeaaU10
namespace Go.Proofs.Ytgijjmcjobjoeaa
open Go.RowKit

set_option maxHeartbeats 1000000 in
theorem utfJoined_walk (s t : ByteArray) (w : World) (hs : s.size ≤ 140737488351232) (ht : t.size ≤ 140737488351232) :
    Calls Try.prog 10 #[.string s, .string t] w fun e w' => e = .returned (.bool true) ∧ Below w.heap.size w w' := by
  have hb := endF_bd s 0 (Nat.zero_le _)
  have hbt := endF_bd t 0 (Nat.zero_le _)
  by_cases h : endF s 0 = s.size
  · have happ := endF_app s t s.size 0 (by omega) (Nat.zero_le _) h
    have Happ := Lib.hid happ
    have H := Lib.hid h
    have hst : (s ++ t).size ≤ 281474976710656 := by rw [app_size]; omega
    have t1 : (((s.size : Nat) : Int) == (s.size : Int)) = true := by simp
    have Hst := Lib.hid hst
    clear h happ hst
    go_enter Try.func10, Try.ntmps10
    go_wp2_with fail
    refine (bad_any s (by omega) _).mono ?_
    rw [H.out]
    rintro e w' ⟨rfl, rfl⟩
    go_wp2_with fail
    refine (bad_any (s ++ t) Hst.out _).mono ?_
    rw [Happ.out]
    rintro e w' ⟨rfl, rfl⟩
    go_wp2_with fail
    refine (bad_any t (by omega) _).mono ?_
    rintro e w' ⟨rfl, rfl⟩
    go_wp2_with fail
    refine (uawake_any _).mono ?_
    rintro e w3 ⟨rfl, hb3⟩
    go_wp2_with fail
    go_ret
    exact ⟨ret_bool (by simp), hb3⟩
  · have t1 : (((endF s 0 : Nat) : Int) == (s.size : Int)) = false := by simp; omega
    have t2 : (((endF s 0 : Nat) : Int) != (s.size : Int)) = true := by simp; omega
    clear h
    go_enter Try.func10, Try.ntmps10
    go_wp2_with fail
    refine (bad_any s (by omega) _).mono ?_
    rintro e w' ⟨rfl, rfl⟩
    go_wp2_with fail
    refine (uawake_any _).mono ?_
    rintro e w3 ⟨rfl, hb3⟩
    go_wp2_with fail
    go_ret
    exact ⟨rfl, hb3⟩
end Go.Proofs.Ytgijjmcjobjoeaa
