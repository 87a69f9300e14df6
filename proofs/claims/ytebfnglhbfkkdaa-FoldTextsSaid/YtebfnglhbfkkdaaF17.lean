import Derived.Test.YtebfnglhbfkkdaaF16
namespace Go.Proofs.Ytebfnglhbfkkdaa
open Go.RowKit

set_option maxHeartbeats 1000000 in
theorem foldTexts_walk (a b : ByteArray) (w : World) (ha : a.size ≤ 140737488351232) (hb : b.size ≤ 140737488351232) (hm : MaxAt w) (h0 : 0 < w.heap.size) :
    Calls Try.prog 3 #[.string a, .string b] w fun e w' => e = .returned (.bool true) ∧ Below w.heap.size w w' := by
  have Hm := Lib.hid hm
  clear hm
  by_cases h1 : 5000 < a.size
  · go_enter Try.func3, Try.ntmps3
    go_wp2_with fail
    refine (awake_any _ Hm.out h0).mono ?_
    rintro e w1 ⟨rfl, hb1⟩
    go_wp2_with fail
    go_ret
    exact ⟨rfl, hb1⟩
  · by_cases h2 : 5000 < b.size
    · go_enter Try.func3, Try.ntmps3
      go_wp2_with fail
      refine (awake_any _ Hm.out h0).mono ?_
      rintro e w1 ⟨rfl, hb1⟩
      go_wp2_with fail
      go_ret
      exact ⟨rfl, hb1⟩
    · go_enter Try.func3, Try.ntmps3
      go_wp2_with fail
      refine (awake_any _ Hm.out h0).mono ?_
      rintro e w1 ⟨rfl, hb1⟩
      have z1 : w.heap.size ≤ w1.heap.size := hb1.size
      have HB1 := Lib.hid hb1
      clear hb1
      go_wp2_with fail
      refine (fold_any a (by omega) _).mono ?_
      rintro e w2 ⟨rfl, hb2⟩
      have z2 : w1.heap.size ≤ w2.heap.size := hb2.size
      have HB2 := Lib.hid (HB1.out.trans (hb2.mono (by omega)))
      clear hb2
      go_wp2_with fail
      refine (rfold_any a (by omega) _).mono ?_
      rintro e w3 ⟨rfl, hb3⟩
      have z3 : w2.heap.size ≤ w3.heap.size := hb3.size
      have HB3 := Lib.hid (HB2.out.trans (hb3.mono (by omega)))
      clear hb3
      go_wp2_with fail
      refine (has_any a b (by omega) (by omega) _ (Hm.out.below HB3.out h0) (by omega)).mono ?_
      rintro e w4 ⟨rfl, hb4⟩
      have z4 : w3.heap.size ≤ w4.heap.size := hb4.size
      have HB4 := Lib.hid (HB3.out.trans (hb4.mono (by omega)))
      clear hb4
      go_wp2_with fail
      refine (rhas_any a b (by omega) (by omega) _).mono ?_
      rintro e w5 ⟨rfl, hb5⟩
      have z5 : w4.heap.size ≤ w5.heap.size := hb5.size
      have HB5 := Lib.hid (HB4.out.trans (hb5.mono (by omega)))
      clear hb5
      go_wp2_with fail
      refine (comp_any a b (by omega) (by omega) _).mono ?_
      rintro e w6 ⟨rfl, hb6⟩
      have z6 : w5.heap.size ≤ w6.heap.size := hb6.size
      have HB6 := Lib.hid (HB5.out.trans (hb6.mono (by omega)))
      clear hb6
      go_wp2_with fail
      refine (rcomp_any a b (by omega) (by omega) _).mono ?_
      rintro e w7 ⟨rfl, hb7⟩
      have z7 : w6.heap.size ≤ w7.heap.size := hb7.size
      have HB7 := Lib.hid (HB6.out.trans (hb7.mono (by omega)))
      clear hb7
      go_wp2_with fail
      go_ret
      exact ⟨ret_bool (by simp), HB7.out⟩
end Go.Proofs.Ytebfnglhbfkkdaa
