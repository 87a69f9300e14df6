import Derived.Test.YtebfnglhbfkkdaaDoorW10
namespace Go.Proofs.YtebfnglhbfkkdaaDoor
open Go.RowKit Go.Shelf

set_option maxHeartbeats 1000000 in
theorem wordIns_walk (l s : ByteArray) (w : World) (_hl : l.size ≤ 140737488351232) (hu : l.size ≤ 1048575) (_hs : s.size ≤ 140737488351232) (_hv : s.size ≤ 1048575) (hm : MaxAt w) (h0 : 0 < w.heap.size) :
    Calls Tryd.prog 4 #[.string l, .string s] w fun e w' => e = .returned (.bool true) ∧ Below w.heap.size w w' := by
  have Hm := Lib.hid hm
  clear hm
  go_enter Tryd.func4, Tryd.ntmps4
  go_wp2_with fail
  refine (awake_any _ Hm.out h0).mono ?_
  rintro e w1 ⟨rfl, hb1⟩
  have z1 : w.heap.size ≤ w1.heap.size := hb1.size
  have HB1 := Lib.hid hb1
  clear hb1
  go_wp2_with fail
  refine (in_at l s (by omega) _ rfl _ (Hm.out.below HB1.out h0)).mono ?_
  rintro e w2 ⟨rfl, hb2⟩
  have z2 : w1.heap.size ≤ w2.heap.size := hb2.size
  have HB2 := Lib.hid (HB1.out.trans (hb2.mono (by omega)))
  clear hb2
  go_wp2_with fail
  refine (rin_at l s (by omega) _ rfl _).mono ?_
  rintro e w3 ⟨rfl, hb3⟩
  have z3 : w2.heap.size ≤ w3.heap.size := hb3.size
  have HB3 := Lib.hid (HB2.out.trans (hb3.mono (by omega)))
  clear hb3
  go_wp2_with fail
  go_ret
  exact ⟨ret_bool (by simp), HB3.out⟩
end Go.Proofs.YtebfnglhbfkkdaaDoor
