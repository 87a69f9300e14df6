import Derived.Test.YtgijjmcjobjoeaaA8
import Derived.Test.YtgijjmcjobjoeaaMem2
namespace Go.Proofs.Ytgijjmcjobjoeaa
open Go.RowKit

theorem emp_empty : (⟨#[]⟩ : ByteArray).toList.isEmpty = true := by decide +kernel
theorem ends_all (xs : List ByteArray) (k : Nat) (h : k = 0 ∨ xs.length < k) (hk : k ≤ 255) : cutF xs (-(k : Int)) 0 (-1) ⟨#[]⟩ = (xs, 0, 0) := by
  have e : nearF (-(k : Int)) = -(k : Int) := by unfold nearF; rw [if_neg (by omega), if_neg (by omega)]
  unfold cutF
  rw [if_pos emp_empty, e]
  have hF : (if -(k : Int) < 0 then mxF (xs.length + -(k : Int)) 0 else -(k : Int)) = 0 := by
    unfold mxF; repeat' split
    all_goals omega
  rw [hF]
  unfold cutAt
  have e2 : nearF (-1) < 0 := by decide
  rw [if_pos e2]
  simp
theorem ends_some (xs : List ByteArray) (k : Nat) (h : 0 < k) (h2 : k ≤ xs.length) (hk : k ≤ 255) : cutF xs (-(k : Int)) 0 (-1) ⟨#[]⟩ = (xs.drop (xs.length - k), (xs.length : Int) - k, 0) := by
  have e : nearF (-(k : Int)) = -(k : Int) := by unfold nearF; rw [if_neg (by omega), if_neg (by omega)]
  unfold cutF
  rw [if_pos emp_empty, e]
  have hF : (if -(k : Int) < 0 then mxF (xs.length + -(k : Int)) 0 else -(k : Int)) = (xs.length : Int) - k := by
    unfold mxF; repeat' split
    all_goals omega
  rw [hF]
  unfold cutAt
  have e2 : nearF (-1) < 0 := by decide
  rw [if_pos e2, show ((xs.length : Int) - k).toNat = xs.length - k from by omega, List.take_of_length_le (by rw [List.length_drop]; omega)]

set_option maxHeartbeats 1000000 in
theorem windowEnds_walk (A : Option Addr) (n ca : Nat) (xs : List ByteArray) (kk : Int) (w : World) (hx : Rd w w.heap.size A (xs.map Value.string))
    (hn : xs.length = n) (hcap : n ≤ ca) (hre : ca * 16 ≤ 140737488351232) (h0 : A = none → n = 0) (bk : 0 ≤ kk ∧ kk ≤ 255) :
    Calls Try.prog 5 #[.slice A n ca, .int .u8 kk] w fun e w' => e = .returned (.bool true) ∧ Below w.heap.size w w' := by
  obtain ⟨k, rfl⟩ := Int.eq_ofNat_of_zero_le bk.1
  have H0 := Lib.hid h0
  have Hn := Lib.hid hn
  have Hx := Lib.hid hx
  clear hx hn h0
  by_cases hk : 0 < k ∧ k ≤ n
  · obtain ⟨hk1, hk2⟩ := hk
    have hr := ends_some xs k hk1 (by rw [Hn.out]; exact hk2) (by omega)
    rw [Hn.out] at hr
    have Hr := Lib.hid hr
    have hl : (xs.drop (n - k)).length = k := by rw [List.length_drop, Hn.out]; omega
    have Hl := Lib.hid hl
    have t1 : ((k : Int) == 0) = false := by simp; omega
    clear hr hl
    go_enter Try.func5, Try.ntmps5
    go_wp2_with fail
    refine (cut_any A n ca w.heap.size xs (-(k : Int)) 0 (-1) ⟨#[]⟩ _ Hx.out Hn.out (by omega) hcap hre H0.out (by omega) (by omega) (by omega) (by omega)).mono ?_
    rw [Hr.out]
    rintro e w1 ⟨A1, c1, rfl, ho1, hb1⟩
    simp only [Hl.out] at ho1 ⊢
    have z1 : w.heap.size ≤ w1.heap.size := hb1.size
    have HB1 := Lib.hid hb1
    clear hb1 ho1
    go_wp2_with (go_at_call 16; refine (awake_any _).mono ?_; rintro e w3 ⟨rfl, hb3⟩)
    go_ret
    exact ⟨ret_bool (by simp), HB1.out.trans (hb3.mono (by omega))⟩
  · have hr := ends_all xs k (by rw [Hn.out]; omega) (by omega)
    have Hr := Lib.hid hr
    clear hr
    by_cases hk0 : k = 0
    · subst hk0
      go_enter Try.func5, Try.ntmps5
      go_wp2_with fail
      refine (cut_any A n ca w.heap.size xs _ 0 (-1) ⟨#[]⟩ _ Hx.out Hn.out (by omega) hcap hre H0.out (by omega) (by omega) (by omega) (by omega)).mono ?_
      rw [show cutF xs 0 0 (-1) ⟨#[]⟩ = (xs, 0, 0) from Hr.out]
      rintro e w1 ⟨A1, c1, rfl, ho1, hb1⟩
      simp only [Hn.out] at ho1 ⊢
      have z1 : w.heap.size ≤ w1.heap.size := hb1.size
      have Hx1 := Lib.hid ((Hx.out.below hb1).mono (B' := w1.heap.size) z1)
      have HB1 := Lib.hid hb1
      have Hr1 := Lib.hid (Rd.of_own ho1)
      clear hb1 ho1
      go_wp2_with fail
      refine (awake_any _).mono ?_
      rintro e w3 ⟨rfl, hb3⟩
      have HB3 := Lib.hid (HB1.out.trans (hb3.mono z1))
      have Hr3 := Lib.hid (Hr1.out.below hb3)
      have Hx3 := Lib.hid (Hx1.out.below hb3)
      clear hb3
      go_wp2_with fail
      refine (same_any _ _ _ _ _ _ w1.heap.size xs xs _ Hr3.out Hx3.out Hn.out Hn.out (by omega) (by omega)).mono ?_
      rintro e w4 ⟨rfl, hd4⟩
      have HB4 := Lib.hid (HB3.out.trans (hd4.below (B := w.heap.size)))
      clear hd4
      go_wp2_with fail
      go_ret
      exact ⟨ret_bool (by simp), HB4.out⟩
    · have t1 : ((k : Int) == 0) = false := by simp; omega
      go_enter Try.func5, Try.ntmps5
      go_wp2_with fail
      refine (cut_any A n ca w.heap.size xs (-(k : Int)) 0 (-1) ⟨#[]⟩ _ Hx.out Hn.out (by omega) hcap hre H0.out (by omega) (by omega) (by omega) (by omega)).mono ?_
      rw [Hr.out]
      rintro e w1 ⟨A1, c1, rfl, ho1, hb1⟩
      simp only [Hn.out] at ho1 ⊢
      have z1 : w.heap.size ≤ w1.heap.size := hb1.size
      have Hx1 := Lib.hid ((Hx.out.below hb1).mono (B' := w1.heap.size) z1)
      have HB1 := Lib.hid hb1
      have Hr1 := Lib.hid (Rd.of_own ho1)
      clear hb1 ho1
      go_wp2_with fail
      refine (awake_any _).mono ?_
      rintro e w3 ⟨rfl, hb3⟩
      have HB3 := Lib.hid (HB1.out.trans (hb3.mono z1))
      have Hr3 := Lib.hid (Hr1.out.below hb3)
      have Hx3 := Lib.hid (Hx1.out.below hb3)
      clear hb3
      go_wp2_with fail
      refine (same_any _ _ _ _ _ _ w1.heap.size xs xs _ Hr3.out Hx3.out Hn.out Hn.out (by omega) (by omega)).mono ?_
      rintro e w4 ⟨rfl, hd4⟩
      have HB4 := Lib.hid (HB3.out.trans (hd4.below (B := w.heap.size)))
      clear hd4
      go_wp2_with fail
      go_ret
      exact ⟨ret_bool (by simp), HB4.out⟩
end Go.Proofs.Ytgijjmcjobjoeaa
