import Derived.Test.YtebfnglhbfkkdaaF16
namespace Go.Proofs.Ytebfnglhbfkkdaa
open Go.RowKit

set_option maxHeartbeats 2000000 in
theorem foldOrder_walk (a b c : ByteArray) (w : World) (ha : a.size ≤ 140737488351232) (hb : b.size ≤ 140737488351232) (hc : c.size ≤ 140737488351232) (hm : MaxAt w) (h0 : 0 < w.heap.size) :
    Calls Try.prog 7 #[.string a, .string b, .string c] w fun e w' => e = .returned (.bool true) ∧ Below w.heap.size w w' := by
  have Hm := Lib.hid hm
  clear hm
  by_cases h1 : 5000 < a.size
  · go_enter Try.func7, Try.ntmps7
    go_wp2_with fail
    refine (awake_any _ Hm.out h0).mono ?_
    rintro e w1 ⟨rfl, hb1⟩
    go_wp2_with fail
    go_ret
    exact ⟨rfl, hb1⟩
  · by_cases h2 : 5000 < b.size
    · go_enter Try.func7, Try.ntmps7
      go_wp2_with fail
      refine (awake_any _ Hm.out h0).mono ?_
      rintro e w1 ⟨rfl, hb1⟩
      go_wp2_with fail
      go_ret
      exact ⟨rfl, hb1⟩
    · by_cases h3 : 5000 < c.size
      · go_enter Try.func7, Try.ntmps7
        go_wp2_with fail
        refine (awake_any _ Hm.out h0).mono ?_
        rintro e w1 ⟨rfl, hb1⟩
        go_wp2_with fail
        go_ret
        exact ⟨rfl, hb1⟩
      · have za := foldS_size a
        obtain ⟨x, hx⟩ : ∃ x, cmpF a b = x := ⟨_, rfl⟩
        obtain ⟨y, hy⟩ : ∃ y, cmpF b c = y := ⟨_, rfl⟩
        obtain ⟨z, hz⟩ : ∃ z, cmpF b a = z := ⟨_, rfl⟩
        obtain ⟨v, hv⟩ : ∃ v, cmpF a c = v := ⟨_, rfl⟩
        have hxz : x = -z := by rw [← hx, ← hz]; exact cmpF_neg a b
        have bz := cmpF_bd b a
        have bv := cmpF_bd a c
        rw [hz] at bz
        rw [hv] at bv
        have bx : -1 ≤ x ∧ x ≤ 1 := by omega
        have Htr : Hid (x ≤ 0 → y ≤ 0 → v ≤ 0) := Lib.hid (by rw [← hx, ← hy, ← hv]; exact cmpF_trans a b c)
        have Hx := Lib.hid hx
        have Hy := Lib.hid hy
        have Hz := Lib.hid hz
        have Hv := Lib.hid hv
        have Hff := Lib.hid (cmpF_fold a)
        have e1 : (x == -z) = true := beq_iff_eq.2 hxz
        have e2 : (x != -z) = false := by rw [hxz]; simp
        clear hx hy hz hv hxz
        obtain ⟨bz1, bz2⟩ := bz
        obtain ⟨bv1, bv2⟩ := bv
        obtain ⟨bx1, bx2⟩ := bx
        by_cases hx0 : 0 < x
        · go_enter Try.func7, Try.ntmps7
          go_wp2_with fail
          refine (comp_at a b (by omega) (by omega) _ _ Hx.out).mono ?_
          rintro e w1 ⟨rfl, hb1⟩
          have z1 : w.heap.size ≤ w1.heap.size := hb1.size
          have HB1 := Lib.hid hb1
          clear hb1
          go_wp2_with fail
          refine (comp_at b c (by omega) (by omega) _ _ Hy.out).mono ?_
          rintro e w2 ⟨rfl, hb2⟩
          have z2 : w1.heap.size ≤ w2.heap.size := hb2.size
          have HB2 := Lib.hid (HB1.out.trans (hb2.mono (by omega)))
          clear hb2
          go_wp2_with fail
          refine (awake_any _ (Hm.out.below HB2.out h0) (by omega)).mono ?_
          rintro e w3 ⟨rfl, hb3⟩
          have z3 : w2.heap.size ≤ w3.heap.size := hb3.size
          have HB3 := Lib.hid (HB2.out.trans (hb3.mono (by omega)))
          clear hb3
          go_wp2_with fail
          refine (comp_at b a (by omega) (by omega) _ _ Hz.out).mono ?_
          rintro e w4 ⟨rfl, hb4⟩
          have z4 : w3.heap.size ≤ w4.heap.size := hb4.size
          have HB4 := Lib.hid (HB3.out.trans (hb4.mono (by omega)))
          clear hb4
          go_wp2_with fail
          refine (fold_any a (by omega) _).mono ?_
          rintro e w5 ⟨rfl, hb5⟩
          have z5 : w4.heap.size ≤ w5.heap.size := hb5.size
          have HB5 := Lib.hid (HB4.out.trans (hb5.mono (by omega)))
          clear hb5
          go_wp2_with fail
          refine (comp_at a (foldS a) (by omega) (by omega) _ _ Hff.out).mono ?_
          rintro e w6 ⟨rfl, hb6⟩
          have z6 : w5.heap.size ≤ w6.heap.size := hb6.size
          have HB6 := Lib.hid (HB5.out.trans (hb6.mono (by omega)))
          clear hb6
          go_wp2_with fail
          go_ret
          exact ⟨rfl, HB6.out⟩
        · by_cases hy0 : 0 < y
          · go_enter Try.func7, Try.ntmps7
            go_wp2_with fail
            refine (comp_at a b (by omega) (by omega) _ _ Hx.out).mono ?_
            rintro e w1 ⟨rfl, hb1⟩
            have z1 : w.heap.size ≤ w1.heap.size := hb1.size
            have HB1 := Lib.hid hb1
            clear hb1
            go_wp2_with fail
            refine (comp_at b c (by omega) (by omega) _ _ Hy.out).mono ?_
            rintro e w2 ⟨rfl, hb2⟩
            have z2 : w1.heap.size ≤ w2.heap.size := hb2.size
            have HB2 := Lib.hid (HB1.out.trans (hb2.mono (by omega)))
            clear hb2
            go_wp2_with fail
            refine (awake_any _ (Hm.out.below HB2.out h0) (by omega)).mono ?_
            rintro e w3 ⟨rfl, hb3⟩
            have z3 : w2.heap.size ≤ w3.heap.size := hb3.size
            have HB3 := Lib.hid (HB2.out.trans (hb3.mono (by omega)))
            clear hb3
            go_wp2_with fail
            refine (comp_at b a (by omega) (by omega) _ _ Hz.out).mono ?_
            rintro e w4 ⟨rfl, hb4⟩
            have z4 : w3.heap.size ≤ w4.heap.size := hb4.size
            have HB4 := Lib.hid (HB3.out.trans (hb4.mono (by omega)))
            clear hb4
            go_wp2_with fail
            refine (fold_any a (by omega) _).mono ?_
            rintro e w5 ⟨rfl, hb5⟩
            have z5 : w4.heap.size ≤ w5.heap.size := hb5.size
            have HB5 := Lib.hid (HB4.out.trans (hb5.mono (by omega)))
            clear hb5
            go_wp2_with fail
            refine (comp_at a (foldS a) (by omega) (by omega) _ _ Hff.out).mono ?_
            rintro e w6 ⟨rfl, hb6⟩
            have z6 : w5.heap.size ≤ w6.heap.size := hb6.size
            have HB6 := Lib.hid (HB5.out.trans (hb6.mono (by omega)))
            clear hb6
            go_wp2_with fail
            go_ret
            exact ⟨rfl, HB6.out⟩
          · have hv0 : v ≤ 0 := Htr.out (by omega) (by omega)
            go_enter Try.func7, Try.ntmps7
            go_wp2_with fail
            refine (comp_at a b (by omega) (by omega) _ _ Hx.out).mono ?_
            rintro e w1 ⟨rfl, hb1⟩
            have z1 : w.heap.size ≤ w1.heap.size := hb1.size
            have HB1 := Lib.hid hb1
            clear hb1
            go_wp2_with fail
            refine (comp_at b c (by omega) (by omega) _ _ Hy.out).mono ?_
            rintro e w2 ⟨rfl, hb2⟩
            have z2 : w1.heap.size ≤ w2.heap.size := hb2.size
            have HB2 := Lib.hid (HB1.out.trans (hb2.mono (by omega)))
            clear hb2
            go_wp2_with fail
            refine (awake_any _ (Hm.out.below HB2.out h0) (by omega)).mono ?_
            rintro e w3 ⟨rfl, hb3⟩
            have z3 : w2.heap.size ≤ w3.heap.size := hb3.size
            have HB3 := Lib.hid (HB2.out.trans (hb3.mono (by omega)))
            clear hb3
            go_wp2_with fail
            refine (comp_at b a (by omega) (by omega) _ _ Hz.out).mono ?_
            rintro e w4 ⟨rfl, hb4⟩
            have z4 : w3.heap.size ≤ w4.heap.size := hb4.size
            have HB4 := Lib.hid (HB3.out.trans (hb4.mono (by omega)))
            clear hb4
            go_wp2_with fail
            refine (fold_any a (by omega) _).mono ?_
            rintro e w5 ⟨rfl, hb5⟩
            have z5 : w4.heap.size ≤ w5.heap.size := hb5.size
            have HB5 := Lib.hid (HB4.out.trans (hb5.mono (by omega)))
            clear hb5
            go_wp2_with fail
            refine (comp_at a (foldS a) (by omega) (by omega) _ _ Hff.out).mono ?_
            rintro e w6 ⟨rfl, hb6⟩
            have z6 : w5.heap.size ≤ w6.heap.size := hb6.size
            have HB6 := Lib.hid (HB5.out.trans (hb6.mono (by omega)))
            clear hb6
            go_wp2_with fail
            refine (comp_at a c (by omega) (by omega) _ _ Hv.out).mono ?_
            rintro e w7 ⟨rfl, hb7⟩
            have z7 : w6.heap.size ≤ w7.heap.size := hb7.size
            have HB7 := Lib.hid (HB6.out.trans (hb7.mono (by omega)))
            clear hb7
            go_wp2_with fail
            go_ret
            exact ⟨rfl, HB7.out⟩
end Go.Proofs.Ytebfnglhbfkkdaa
