import Derived.Test.YtebfnglhbfkkdaaDoorW10
namespace Go.Proofs.YtebfnglhbfkkdaaDoor
open Go.RowKit Go.Shelf

theorem split_one (s : ByteArray) (c : UInt8) (h : (splitF s c).length = 1) : splitF s c = [s] := by
  rcases idx_cases s c with ⟨_, hn⟩ | ⟨k, _, _, u, v, he, hu, _⟩
  · exact splitF_miss s c hn
  · rw [splitF_hit s c u v he hu, List.length_cons] at h
    have : splitF (strOf v) c ≠ [] := by unfold splitF; simp [splitL_ne]
    have := List.length_pos_iff.2 this
    omega
theorem inF_app (x y s : ByteArray) : inF (x ++ ⟨#[32]⟩ ++ y) s = (inF x s || inF y s) := by
  unfold inF
  rw [splitF_app, List.any_append]
  cases decide (s.size ≠ 0) <;> simp
theorem inF_self (s : ByteArray) (h : 0 < s.size) (h1 : splitF s 32 = [s]) : inF s s = true := by
  rw [inF_some s s h, h1]; simp

set_option maxHeartbeats 2000000 in
theorem wordLists_walk (a b s : ByteArray) (w : World) (_ha : a.size ≤ 140737488351232) (ua : a.size ≤ 1048575) (_hb : b.size ≤ 140737488351232) (ub : b.size ≤ 1048575) (_hs : s.size ≤ 140737488351232) (us : s.size ≤ 1048575) (hm : MaxAt w) (h0 : 0 < w.heap.size) :
    Calls Tryd.prog 7 #[.string a, .string b, .string s] w fun e w' => e = .returned (.bool true) ∧ Below w.heap.size w w' := by
  have Hm := Lib.hid hm
  clear hm
  by_cases hs : s.size = 0
  · have hE := toList_nil hs
    have Hn := Lib.hid (inF_none a s hs)
    clear hs
    go_enter Tryd.func7, Tryd.ntmps7
    go_wp2_with fail
    refine (awake_any _ Hm.out h0).mono ?_
    rintro e w1 ⟨rfl, hb1⟩
    have z1 : w.heap.size ≤ w1.heap.size := hb1.size
    have HB1 := Lib.hid hb1
    clear hb1
    go_wp2_with fail
    refine (awake_any _ (Hm.out.below HB1.out h0) (by omega)).mono ?_
    rintro e w2 ⟨rfl, hb2⟩
    have z2 : w1.heap.size ≤ w2.heap.size := hb2.size
    have HB2 := Lib.hid (HB1.out.trans (hb2.mono (by omega)))
    clear hb2
    go_wp2_with fail
    refine (in_at a s (by omega) _ Hn.out _ (Hm.out.below HB2.out h0)).mono ?_
    rintro e w3 ⟨rfl, hb3⟩
    have z3 : w2.heap.size ≤ w3.heap.size := hb3.size
    have HB3 := Lib.hid (HB2.out.trans (hb3.mono (by omega)))
    clear hb3
    go_wp2_with fail
    go_ret
    exact ⟨rfl, HB3.out⟩
  · have hpos : 0 < s.size := by omega
    have hE := ne_isEmpty (a := s) hpos
    have hE2 : s.toList.isEmpty = false := by simpa using hE
    obtain ⟨n, hn⟩ : ∃ n, (splitF s 32).length = n := ⟨_, rfl⟩
    have HS := Lib.hid (fun w => rsplit_at s 32 32 rfl (by omega) _ n rfl hn w)
    by_cases h1 : n = 1
    · have Hself := Lib.hid (inF_self s hpos (split_one s 32 (by rw [hn]; exact h1)))
      have hz : ∀ x y : ByteArray, (x ++ y).size = x.size + y.size := fun x y => ByteArray.size_append
      have hone : (⟨#[32]⟩ : ByteArray).size = 1 := rfl
      have z3 : (a ++ ⟨#[32]⟩ ++ s).size ≤ 3200000 := by rw [hz, hz, hone]; omega
      have z4 : (s ++ ⟨#[32]⟩ ++ b).size ≤ 3200000 := by rw [hz, hz, hone]; omega
      have z5 : (a ++ ⟨#[32]⟩ ++ s ++ ⟨#[32]⟩ ++ b).size ≤ 3200000 := by rw [hz, hz, hz, hz, hone]; omega
      have z6 : (a ++ ⟨#[32]⟩ ++ b).size ≤ 3200000 := by rw [hz, hz, hone]; omega
      have H3 : Hid (inF (a ++ ⟨#[32]⟩ ++ s) s = true) := Lib.hid (by rw [inF_app, Hself.out, Bool.or_true])
      have H4 : Hid (inF (s ++ ⟨#[32]⟩ ++ b) s = true) := Lib.hid (by rw [inF_app, Hself.out, Bool.true_or])
      have H5 : Hid (inF (a ++ ⟨#[32]⟩ ++ s ++ ⟨#[32]⟩ ++ b) s = true) := Lib.hid (by rw [inF_app, H3.out, Bool.true_or])
      have H6 : Hid (inF (a ++ ⟨#[32]⟩ ++ b) s = (inF a s || inF b s)) := Lib.hid (inF_app a b s)
      have Z3 := Lib.hid z3
      have Z4 := Lib.hid z4
      have Z5 := Lib.hid z5
      have Z6 := Lib.hid z6
      have b1 : ((n : Int) != 1) = false := by rw [h1]; rfl
      have b2 : ((n : Int) == 1) = true := by rw [h1]; rfl
      clear h1 hn hz hone z3 z4 z5 z6
      cases hia : inF a s with
      | true =>
        have H6' : Hid (inF (a ++ ⟨#[32]⟩ ++ b) s = true) := Lib.hid (by rw [H6.out, hia, Bool.true_or])
        have Hia := Lib.hid hia
        clear hia
        go_enter Tryd.func7, Tryd.ntmps7
        go_wp2_with fail
        refine (awake_any _ Hm.out h0).mono ?_
        rintro e w1 ⟨rfl, hb1⟩
        have z1 : w.heap.size ≤ w1.heap.size := hb1.size
        have HB1 := Lib.hid hb1
        clear hb1
        go_wp2_with fail
        refine (HS.out _).mono ?_
        rintro e w2 ⟨A, c2, rfl, _, hb2⟩
        have z2 : w1.heap.size ≤ w2.heap.size := hb2.size
        have HB2 := Lib.hid (HB1.out.trans (hb2.mono (by omega)))
        clear hb2
        go_wp2_with fail
        refine (in_at s s (by omega) _ Hself.out _ (Hm.out.below HB2.out h0)).mono ?_
        rintro e w3 ⟨rfl, hb3⟩
        have z3 : w2.heap.size ≤ w3.heap.size := hb3.size
        have HB3 := Lib.hid (HB2.out.trans (hb3.mono (by omega)))
        clear hb3
        go_wp2_with fail
        have T1 := Hm.out.below HB3.out h0
        have T2 := Z3.out
        have T3 := H3.out
        have T4 := in_at _ s T2
        have T5 := T4 _ T3 w3 T1
        refine T5.mono ?_
        clear T1 T2 T3 T4 T5
        rintro e w4 ⟨rfl, hb4⟩
        have z4 : w3.heap.size ≤ w4.heap.size := hb4.size
        have HB4 := Lib.hid (HB3.out.trans (hb4.mono (by omega)))
        clear hb4
        go_wp2_with fail
        have T1 := Hm.out.below HB4.out h0
        have T2 := Z4.out
        have T3 := H4.out
        have T4 := in_at _ s T2
        have T5 := T4 _ T3 w4 T1
        refine T5.mono ?_
        clear T1 T2 T3 T4 T5
        rintro e w5 ⟨rfl, hb5⟩
        have z5 : w4.heap.size ≤ w5.heap.size := hb5.size
        have HB5 := Lib.hid (HB4.out.trans (hb5.mono (by omega)))
        clear hb5
        go_wp2_with fail
        have T1 := Hm.out.below HB5.out h0
        have T2 := Z5.out
        have T3 := H5.out
        have T4 := in_at _ s T2
        have T5 := T4 _ T3 w5 T1
        refine T5.mono ?_
        clear T1 T2 T3 T4 T5
        rintro e w6 ⟨rfl, hb6⟩
        have z6 : w5.heap.size ≤ w6.heap.size := hb6.size
        have HB6 := Lib.hid (HB5.out.trans (hb6.mono (by omega)))
        clear hb6
        go_wp2_with fail
        have T1 := Hm.out.below HB6.out h0
        have T2 := Z6.out
        have T3 := H6'.out
        have T4 := in_at _ s T2
        have T5 := T4 _ T3 w6 T1
        refine T5.mono ?_
        clear T1 T2 T3 T4 T5
        rintro e w7 ⟨rfl, hb7⟩
        have z7 : w6.heap.size ≤ w7.heap.size := hb7.size
        have HB7 := Lib.hid (HB6.out.trans (hb7.mono (by omega)))
        clear hb7
        go_wp2_with fail
        refine (in_at a s (by omega) _ Hia.out _ (Hm.out.below HB7.out h0)).mono ?_
        rintro e w8 ⟨rfl, hb8⟩
        have z8 : w7.heap.size ≤ w8.heap.size := hb8.size
        have HB8 := Lib.hid (HB7.out.trans (hb8.mono (by omega)))
        clear hb8
        go_wp2_with fail
        go_ret
        exact ⟨ret_bool (by simp), HB8.out⟩
      | false =>
        have H6' : Hid (inF (a ++ ⟨#[32]⟩ ++ b) s = inF b s) := Lib.hid (by rw [H6.out, hia, Bool.false_or])
        have Hia := Lib.hid hia
        clear hia
        go_enter Tryd.func7, Tryd.ntmps7
        go_wp2_with fail
        refine (awake_any _ Hm.out h0).mono ?_
        rintro e w1 ⟨rfl, hb1⟩
        have z1 : w.heap.size ≤ w1.heap.size := hb1.size
        have HB1 := Lib.hid hb1
        clear hb1
        go_wp2_with fail
        refine (HS.out _).mono ?_
        rintro e w2 ⟨A, c2, rfl, _, hb2⟩
        have z2 : w1.heap.size ≤ w2.heap.size := hb2.size
        have HB2 := Lib.hid (HB1.out.trans (hb2.mono (by omega)))
        clear hb2
        go_wp2_with fail
        refine (in_at s s (by omega) _ Hself.out _ (Hm.out.below HB2.out h0)).mono ?_
        rintro e w3 ⟨rfl, hb3⟩
        have z3 : w2.heap.size ≤ w3.heap.size := hb3.size
        have HB3 := Lib.hid (HB2.out.trans (hb3.mono (by omega)))
        clear hb3
        go_wp2_with fail
        have T1 := Hm.out.below HB3.out h0
        have T2 := Z3.out
        have T3 := H3.out
        have T4 := in_at _ s T2
        have T5 := T4 _ T3 w3 T1
        refine T5.mono ?_
        clear T1 T2 T3 T4 T5
        rintro e w4 ⟨rfl, hb4⟩
        have z4 : w3.heap.size ≤ w4.heap.size := hb4.size
        have HB4 := Lib.hid (HB3.out.trans (hb4.mono (by omega)))
        clear hb4
        go_wp2_with fail
        have T1 := Hm.out.below HB4.out h0
        have T2 := Z4.out
        have T3 := H4.out
        have T4 := in_at _ s T2
        have T5 := T4 _ T3 w4 T1
        refine T5.mono ?_
        clear T1 T2 T3 T4 T5
        rintro e w5 ⟨rfl, hb5⟩
        have z5 : w4.heap.size ≤ w5.heap.size := hb5.size
        have HB5 := Lib.hid (HB4.out.trans (hb5.mono (by omega)))
        clear hb5
        go_wp2_with fail
        have T1 := Hm.out.below HB5.out h0
        have T2 := Z5.out
        have T3 := H5.out
        have T4 := in_at _ s T2
        have T5 := T4 _ T3 w5 T1
        refine T5.mono ?_
        clear T1 T2 T3 T4 T5
        rintro e w6 ⟨rfl, hb6⟩
        have z6 : w5.heap.size ≤ w6.heap.size := hb6.size
        have HB6 := Lib.hid (HB5.out.trans (hb6.mono (by omega)))
        clear hb6
        go_wp2_with fail
        have T1 := Hm.out.below HB6.out h0
        have T2 := Z6.out
        have T3 := H6'.out
        have T4 := in_at _ s T2
        have T5 := T4 _ T3 w6 T1
        refine T5.mono ?_
        clear T1 T2 T3 T4 T5
        rintro e w7 ⟨rfl, hb7⟩
        have z7 : w6.heap.size ≤ w7.heap.size := hb7.size
        have HB7 := Lib.hid (HB6.out.trans (hb7.mono (by omega)))
        clear hb7
        go_wp2_with fail
        refine (in_at a s (by omega) _ Hia.out _ (Hm.out.below HB7.out h0)).mono ?_
        rintro e w8 ⟨rfl, hb8⟩
        have z8 : w7.heap.size ≤ w8.heap.size := hb8.size
        have HB8 := Lib.hid (HB7.out.trans (hb8.mono (by omega)))
        clear hb8
        go_wp2_with fail
        refine (in_at b s (by omega) _ rfl _ (Hm.out.below HB8.out h0)).mono ?_
        rintro e w9 ⟨rfl, hb9⟩
        have z9 : w8.heap.size ≤ w9.heap.size := hb9.size
        have HB9 := Lib.hid (HB8.out.trans (hb9.mono (by omega)))
        clear hb9
        go_wp2_with fail
        go_ret
        exact ⟨ret_bool (by simp), HB9.out⟩
    · have b1 : ((n : Int) != 1) = true := bne_iff_ne.2 (by omega)
      have b2 : ((n : Int) == 1) = false := beq_eq_false_iff_ne.2 (by omega)
      clear h1 hn
      go_enter Tryd.func7, Tryd.ntmps7
      go_wp2_with fail
      refine (awake_any _ Hm.out h0).mono ?_
      rintro e w1 ⟨rfl, hb1⟩
      have z1 : w.heap.size ≤ w1.heap.size := hb1.size
      have HB1 := Lib.hid hb1
      clear hb1
      go_wp2_with fail
      refine (HS.out _).mono ?_
      rintro e w2 ⟨A, c2, rfl, _, hb2⟩
      have z2 : w1.heap.size ≤ w2.heap.size := hb2.size
      have HB2 := Lib.hid (HB1.out.trans (hb2.mono (by omega)))
      clear hb2
      go_wp2_with fail
      refine (awake_any _ (Hm.out.below HB2.out h0) (by omega)).mono ?_
      rintro e w3 ⟨rfl, hb3⟩
      have z3 : w2.heap.size ≤ w3.heap.size := hb3.size
      have HB3 := Lib.hid (HB2.out.trans (hb3.mono (by omega)))
      clear hb3
      go_wp2_with fail
      go_ret
      exact ⟨rfl, HB3.out⟩
end Go.Proofs.YtebfnglhbfkkdaaDoor
