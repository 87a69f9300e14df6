import Derived.Test.YtebfnglhbfkkdaaDoorW9
namespace Go.Proofs.YtebfnglhbfkkdaaDoor
open Go.RowKit Go.Shelf

/-- a call that answers r and leaves all that was there -/
def Ans (r : Bool) (w : World) (e : Ending) (w' : World) : Prop := e = .returned (.bool r) ∧ Below w.heap.size w w'
theorem media_at (s : ByteArray) (hs : s.size ≤ 140737488355328) (r : Bool) (hr : mediaF s = r) (w : World) : Calls Tryd.prog 9 #[.string s] w (Ans r w) :=
  (media_any s hs w).mono fun e w' ⟨he, hd⟩ => ⟨by rw [he, hr], hd.below⟩
theorem rmedia_at (s : ByteArray) (hs : s.size ≤ 3200000) (r : Bool) (hr : mediaF s = r) (w : World) : Calls Tryd.prog 10 #[.string s] w (Ans r w) :=
  (rmedia_any s hs w).mono fun e w' ⟨he, hd⟩ => ⟨by rw [he, hr], hd⟩
theorem lang_at (s : ByteArray) (hs : s.size ≤ 3200000) (r : Bool) (hr : langS s = r) (w : World) (hm : MaxAt w) : Calls Tryd.prog 11 #[.string s] w (Ans r w) :=
  (lang_any s hs w hm).mono fun e w' ⟨he, hd⟩ => ⟨by rw [he, hr], hd⟩
theorem rlang_at (s : ByteArray) (hs : s.size ≤ 3200000) (r : Bool) (hr : langS s = r) (w : World) : Calls Tryd.prog 12 #[.string s] w (Ans r w) :=
  (rlang_any s hs w).mono fun e w' ⟨he, hd⟩ => ⟨by rw [he, hr], hd⟩
theorem uri_at (s : ByteArray) (hs : s.size ≤ 140737488355328) (r : Bool) (hr : uriF s = r) (w : World) : Calls Tryd.prog 13 #[.string s] w (Ans r w) :=
  (uri_any s hs w).mono fun e w' ⟨he, hd⟩ => ⟨by rw [he, hr], hd.below⟩
theorem ruri_at (s : ByteArray) (hs : s.size ≤ 140737488355328) (r : Bool) (hr : uriF s = r) (w : World) : Calls Tryd.prog 14 #[.string s] w (Ans r w) :=
  (ruri_any s hs w).mono fun e w' ⟨he, hd⟩ => ⟨by rw [he, hr], by rw [hd]; exact Below.refl _ _⟩
theorem others_at (s : ByteArray) (hs : s.size ≤ 140737488355328) (r : Bool) (hr : otherF s = r) (w : World) : Calls Tryd.prog 15 #[.string s] w (Ans r w) :=
  (other_any s hs w).mono fun e w' ⟨he, hd⟩ => ⟨by rw [he, hr], by rw [hd]; exact Below.refl _ _⟩
theorem rothers_at (s : ByteArray) (hs : s.size ≤ 3200000) (r : Bool) (hr : otherF s = r) (w : World) : Calls Tryd.prog 16 #[.string s] w (Ans r w) :=
  (rother_any s hs w).mono fun e w' ⟨he, hd⟩ => ⟨by rw [he, hr], hd⟩
theorem in_at (l s : ByteArray) (hl : l.size ≤ 3200000) (r : Bool) (hr : inF l s = r) (w : World) (hm : MaxAt w) : Calls Tryd.prog 17 #[.string l, .string s] w (Ans r w) :=
  (in_any l s (by omega) w hm).mono fun e w' ⟨he, hd⟩ => ⟨by rw [he, hr], hd⟩
theorem rin_at (l s : ByteArray) (hl : l.size ≤ 3200000) (r : Bool) (hr : inF l s = r) (w : World) : Calls Tryd.prog 18 #[.string l, .string s] w (Ans r w) :=
  (rin_any l s hl w).mono fun e w' ⟨he, hd⟩ => ⟨by rw [he, hr], hd⟩

theorem aw1 : mediaF ⟨#[105, 109, 97, 103, 101, 47, 115, 118, 103, 43, 120, 109, 108]⟩ = true := by decide +kernel
theorem aw2 : mediaF ⟨#[105, 109, 97, 103, 101, 47]⟩ = false := by decide +kernel
theorem aw3 : langS ⟨#[100, 101, 45, 67, 72]⟩ = true := by decide +kernel
theorem aw4 : langS ⟨#[101]⟩ = false := by decide +kernel
theorem aw5 : uriF ⟨#[109, 97, 105, 108, 116, 111, 58, 97]⟩ = true := by decide +kernel
theorem aw6 : uriF ⟨#[97, 58, 98, 32, 99]⟩ = false := by decide +kernel
theorem aw7 : otherF ⟨#[97, 46, 98, 58, 99]⟩ = true := by decide +kernel
theorem aw8 : otherF ⟨#[58, 99]⟩ = false := by decide +kernel
theorem aw9 : inF ⟨#[97, 32, 98, 99]⟩ ⟨#[98, 99]⟩ = true := by decide +kernel
theorem aw10 : inF ⟨#[97, 32, 98, 99]⟩ ⟨#[98]⟩ = false := by decide +kernel

set_option maxHeartbeats 1000000 in
theorem awake_any (w : World) (hm : MaxAt w) (h0 : 0 < w.heap.size) : Calls Tryd.prog 8 #[] w (Ans true w) := by
  have Hm := Lib.hid hm
  clear hm
  go_enter Tryd.func8, Tryd.ntmps8
  go_wp2_with fail
  refine (media_at ⟨#[105, 109, 97, 103, 101, 47, 115, 118, 103, 43, 120, 109, 108]⟩ (by decide) _ aw1 _).mono ?_
  rintro e w1 ⟨rfl, hb1⟩
  have z1 : w.heap.size ≤ w1.heap.size := hb1.size
  have HB1 := Lib.hid hb1
  clear hb1
  go_wp2_with fail
  refine (media_at ⟨#[105, 109, 97, 103, 101, 47]⟩ (by decide) _ aw2 _).mono ?_
  rintro e w2 ⟨rfl, hb2⟩
  have z2 : w1.heap.size ≤ w2.heap.size := hb2.size
  have HB2 := Lib.hid (HB1.out.trans (hb2.mono (by omega)))
  clear hb2
  go_wp2_with fail
  refine (lang_at ⟨#[100, 101, 45, 67, 72]⟩ (by decide) _ aw3 _ (Hm.out.below HB2.out h0)).mono ?_
  rintro e w3 ⟨rfl, hb3⟩
  have z3 : w2.heap.size ≤ w3.heap.size := hb3.size
  have HB3 := Lib.hid (HB2.out.trans (hb3.mono (by omega)))
  clear hb3
  go_wp2_with fail
  refine (lang_at ⟨#[101]⟩ (by decide) _ aw4 _ (Hm.out.below HB3.out h0)).mono ?_
  rintro e w4 ⟨rfl, hb4⟩
  have z4 : w3.heap.size ≤ w4.heap.size := hb4.size
  have HB4 := Lib.hid (HB3.out.trans (hb4.mono (by omega)))
  clear hb4
  go_wp2_with fail
  refine (uri_at ⟨#[109, 97, 105, 108, 116, 111, 58, 97]⟩ (by decide) _ aw5 _).mono ?_
  rintro e w5 ⟨rfl, hb5⟩
  have z5 : w4.heap.size ≤ w5.heap.size := hb5.size
  have HB5 := Lib.hid (HB4.out.trans (hb5.mono (by omega)))
  clear hb5
  go_wp2_with fail
  refine (uri_at ⟨#[97, 58, 98, 32, 99]⟩ (by decide) _ aw6 _).mono ?_
  rintro e w6 ⟨rfl, hb6⟩
  have z6 : w5.heap.size ≤ w6.heap.size := hb6.size
  have HB6 := Lib.hid (HB5.out.trans (hb6.mono (by omega)))
  clear hb6
  go_wp2_with fail
  refine (others_at ⟨#[97, 46, 98, 58, 99]⟩ (by decide) _ aw7 _).mono ?_
  rintro e w7 ⟨rfl, hb7⟩
  have z7 : w6.heap.size ≤ w7.heap.size := hb7.size
  have HB7 := Lib.hid (HB6.out.trans (hb7.mono (by omega)))
  clear hb7
  go_wp2_with fail
  refine (others_at ⟨#[58, 99]⟩ (by decide) _ aw8 _).mono ?_
  rintro e w8 ⟨rfl, hb8⟩
  have z8 : w7.heap.size ≤ w8.heap.size := hb8.size
  have HB8 := Lib.hid (HB7.out.trans (hb8.mono (by omega)))
  clear hb8
  go_wp2_with fail
  refine (in_at ⟨#[97, 32, 98, 99]⟩ ⟨#[98, 99]⟩ (by decide) _ aw9 _ (Hm.out.below HB8.out h0)).mono ?_
  rintro e w9 ⟨rfl, hb9⟩
  have z9 : w8.heap.size ≤ w9.heap.size := hb9.size
  have HB9 := Lib.hid (HB8.out.trans (hb9.mono (by omega)))
  clear hb9
  go_wp2_with fail
  refine (in_at ⟨#[97, 32, 98, 99]⟩ ⟨#[98]⟩ (by decide) _ aw10 _ (Hm.out.below HB9.out h0)).mono ?_
  rintro e w10 ⟨rfl, hb10⟩
  have z10 : w9.heap.size ≤ w10.heap.size := hb10.size
  have HB10 := Lib.hid (HB9.out.trans (hb10.mono (by omega)))
  clear hb10
  go_wp2_with fail
  go_ret
  exact ⟨rfl, HB10.out⟩
end Go.Proofs.YtebfnglhbfkkdaaDoor
