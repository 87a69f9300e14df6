import Derived.Test.YtebfnglhbfkkdaaDoorW10
namespace Go.Proofs.YtebfnglhbfkkdaaDoor
open Go.RowKit Go.Shelf

set_option maxHeartbeats 1000000 in
theorem wordForms_walk (s : ByteArray) (w : World) (_hs : s.size ≤ 140737488351232) (hu : s.size ≤ 1048575) (hm : MaxAt w) (h0 : 0 < w.heap.size) :
    Calls Tryd.prog 3 #[.string s] w fun e w' => e = .returned (.bool true) ∧ Below w.heap.size w w' := by
  have Hm := Lib.hid hm
  clear hm
  go_enter Tryd.func3, Tryd.ntmps3
  go_wp2_with fail
  refine (awake_any _ Hm.out h0).mono ?_
  rintro e w1 ⟨rfl, hb1⟩
  have z1 : w.heap.size ≤ w1.heap.size := hb1.size
  have HB1 := Lib.hid hb1
  clear hb1
  go_wp2_with fail
  refine (media_at s (by omega) _ rfl _).mono ?_
  rintro e w2 ⟨rfl, hb2⟩
  have z2 : w1.heap.size ≤ w2.heap.size := hb2.size
  have HB2 := Lib.hid (HB1.out.trans (hb2.mono (by omega)))
  clear hb2
  go_wp2_with fail
  refine (rmedia_at s (by omega) _ rfl _).mono ?_
  rintro e w3 ⟨rfl, hb3⟩
  have z3 : w2.heap.size ≤ w3.heap.size := hb3.size
  have HB3 := Lib.hid (HB2.out.trans (hb3.mono (by omega)))
  clear hb3
  go_wp2_with fail
  refine (lang_at s (by omega) _ rfl _ (Hm.out.below HB3.out h0)).mono ?_
  rintro e w4 ⟨rfl, hb4⟩
  have z4 : w3.heap.size ≤ w4.heap.size := hb4.size
  have HB4 := Lib.hid (HB3.out.trans (hb4.mono (by omega)))
  clear hb4
  go_wp2_with fail
  refine (rlang_at s (by omega) _ rfl _).mono ?_
  rintro e w5 ⟨rfl, hb5⟩
  have z5 : w4.heap.size ≤ w5.heap.size := hb5.size
  have HB5 := Lib.hid (HB4.out.trans (hb5.mono (by omega)))
  clear hb5
  go_wp2_with fail
  refine (uri_at s (by omega) _ rfl _).mono ?_
  rintro e w6 ⟨rfl, hb6⟩
  have z6 : w5.heap.size ≤ w6.heap.size := hb6.size
  have HB6 := Lib.hid (HB5.out.trans (hb6.mono (by omega)))
  clear hb6
  go_wp2_with fail
  refine (ruri_at s (by omega) _ rfl _).mono ?_
  rintro e w7 ⟨rfl, hb7⟩
  have z7 : w6.heap.size ≤ w7.heap.size := hb7.size
  have HB7 := Lib.hid (HB6.out.trans (hb7.mono (by omega)))
  clear hb7
  go_wp2_with fail
  refine (others_at s (by omega) _ rfl _).mono ?_
  rintro e w8 ⟨rfl, hb8⟩
  have z8 : w7.heap.size ≤ w8.heap.size := hb8.size
  have HB8 := Lib.hid (HB7.out.trans (hb8.mono (by omega)))
  clear hb8
  go_wp2_with fail
  refine (rothers_at s (by omega) _ rfl _).mono ?_
  rintro e w9 ⟨rfl, hb9⟩
  have z9 : w8.heap.size ≤ w9.heap.size := hb9.size
  have HB9 := Lib.hid (HB8.out.trans (hb9.mono (by omega)))
  clear hb9
  go_wp2_with fail
  go_ret
  exact ⟨ret_bool (by simp), HB9.out⟩
end Go.Proofs.YtebfnglhbfkkdaaDoor
