import Derived.Test.YtebfnglhbfkkdaaDoorW16
namespace Go.Proofs.YtebfnglhbfkkdaaDoor
open Go.RowKit Go.Shelf

theorem media_dr (s : ByteArray) (hs : s.size ≤ 140737488355328) (h : mediaF s = true) : ∀ (w : World) (n : Nat), Calls Tryd.prog 9 #[.string s] (w.drewN n) fun e w' => e = .returned (.bool true) ∧ ∃ m, w' = w.drewN m := fun w n => Calls.quiet_of ((media_any s hs (w.drewN n)).mono fun e w' ⟨he, hd⟩ => ⟨by rw [he, h], hd⟩)
set_option maxHeartbeats 1000000 in
theorem wordParts_walk (a b c : ByteArray) (w : World) (_ha : a.size ≤ 140737488351232) (ua : a.size ≤ 1048575) (_hb : b.size ≤ 140737488351232) (ub : b.size ≤ 1048575) (_hc : c.size ≤ 140737488351232) (uc : c.size ≤ 1048575) (hm : MaxAt w) (h0 : 0 < w.heap.size) :
    Calls Tryd.prog 5 #[.string a, .string b, .string c] w fun e w' => e = .returned (.bool true) ∧ Below w.heap.size w w' := by
  have Hm := Lib.hid hm
  clear hm
  have hz : ∀ x y : ByteArray, (x ++ y).size = x.size + y.size := fun x y => ByteArray.size_append
  have hone : (⟨#[45]⟩ : ByteArray).size = 1 := rfl
  have hthree : (⟨#[100, 101, 45]⟩ : ByteArray).size = 3 := rfl
  have z3 : (b ++ ⟨#[45]⟩ ++ c).size ≤ 3200000 := by rw [hz, hz, hone]; omega
  have z4 : ((⟨#[100, 101, 45]⟩ : ByteArray) ++ c).size ≤ 3200000 := by rw [hz, hthree]; omega
  have Z3 := Lib.hid z3
  have Z4 := Lib.hid z4
  have HJ : Hid (langS b = true → langS (b ++ ⟨#[45]⟩ ++ c) = tagsF c) := Lib.hid (lang_join b c)
  have HD : Hid (langS ((⟨#[100, 101, 45]⟩ : ByteArray) ++ c) = tagsF c) := Lib.hid (lang_join_de c)
  have HB0 := Lib.hid (Below.refl w.heap.size w)
  clear hz hone hthree z3 z4
  cases hma : mediaF a with
  | false =>
    go_enter Tryd.func5, Tryd.ntmps5
    go_wp2_with fail
    refine (awake_any _ (Hm.out.below HB0.out h0) (by have := HB0.out.size; omega)).mono ?_
    rintro e w1 ⟨rfl, hb1⟩
    have HB1 := Lib.hid (HB0.out.trans (hb1.mono HB0.out.size))
    clear hb1
    go_wp2_with fail
    refine (media_at a (by omega) _ hma _).mono ?_
    rintro e w2 ⟨rfl, hb2⟩
    have HB2 := Lib.hid (HB1.out.trans (hb2.mono HB1.out.size))
    clear hb2
    cases hlb : langS b with
    | false =>
      go_wp2_with fail
      refine (lang_at b (by omega) _ hlb _ (Hm.out.below HB2.out h0)).mono ?_
      rintro e w3 ⟨rfl, hb3⟩
      have HB3 := Lib.hid (HB2.out.trans (hb3.mono HB2.out.size))
      clear hb3
      go_wp2_with fail
      refine (lang_at b (by omega) _ hlb _ (Hm.out.below HB3.out h0)).mono ?_
      rintro e w4 ⟨rfl, hb4⟩
      have HB4 := Lib.hid (HB3.out.trans (hb4.mono HB3.out.size))
      clear hb4
      go_wp2_with fail
      go_ret
      exact ⟨rfl, HB4.out⟩
    | true =>
      cases hlc : langS c with
      | true =>
        have T := Lib.hid ((HJ.out hlb).trans (lang_tags c hlc))
        go_wp2_with fail
        refine (lang_at b (by omega) _ hlb _ (Hm.out.below HB2.out h0)).mono ?_
        rintro e w3 ⟨rfl, hb3⟩
        have HB3 := Lib.hid (HB2.out.trans (hb3.mono HB2.out.size))
        clear hb3
        go_wp2_with fail
        refine (lang_at c (by omega) _ hlc _ (Hm.out.below HB3.out h0)).mono ?_
        rintro e w4 ⟨rfl, hb4⟩
        have HB4 := Lib.hid (HB3.out.trans (hb4.mono HB3.out.size))
        clear hb4
        have T4 := lang_at _ Z3.out _ T.out
        go_wp2_with fail
        refine (T4 _ (Hm.out.below HB4.out h0)).mono ?_
        rintro e w5 ⟨rfl, hb5⟩
        have HB5 := Lib.hid (HB4.out.trans (hb5.mono HB4.out.size))
        clear hb5
        go_wp2_with fail
        refine (lang_at b (by omega) _ hlb _ (Hm.out.below HB5.out h0)).mono ?_
        rintro e w6 ⟨rfl, hb6⟩
        have HB6 := Lib.hid (HB5.out.trans (hb6.mono HB5.out.size))
        clear hb6
        have T5 := lang_at _ Z3.out _ T.out
        go_wp2_with fail
        refine (T5 _ (Hm.out.below HB6.out h0)).mono ?_
        rintro e w7 ⟨rfl, hb7⟩
        have HB7 := Lib.hid (HB6.out.trans (hb7.mono HB6.out.size))
        clear hb7
        go_wp2_with fail
        refine (lang_at c (by omega) _ hlc _ (Hm.out.below HB7.out h0)).mono ?_
        rintro e w8 ⟨rfl, hb8⟩
        have HB8 := Lib.hid (HB7.out.trans (hb8.mono HB7.out.size))
        clear hb8
        go_wp2_with fail
        go_ret
        exact ⟨rfl, HB8.out⟩
      | false =>
        have T := Lib.hid (HJ.out hlb)
        have T2 := HD.out
        generalize tagsF c = q at T T2
        go_wp2_with fail
        refine (lang_at b (by omega) _ hlb _ (Hm.out.below HB2.out h0)).mono ?_
        rintro e w3 ⟨rfl, hb3⟩
        have HB3 := Lib.hid (HB2.out.trans (hb3.mono HB2.out.size))
        clear hb3
        go_wp2_with fail
        refine (lang_at c (by omega) _ hlc _ (Hm.out.below HB3.out h0)).mono ?_
        rintro e w4 ⟨rfl, hb4⟩
        have HB4 := Lib.hid (HB3.out.trans (hb4.mono HB3.out.size))
        clear hb4
        go_wp2_with fail
        refine (lang_at b (by omega) _ hlb _ (Hm.out.below HB4.out h0)).mono ?_
        rintro e w5 ⟨rfl, hb5⟩
        have HB5 := Lib.hid (HB4.out.trans (hb5.mono HB4.out.size))
        clear hb5
        have T5 := lang_at _ Z3.out _ T.out
        go_wp2_with fail
        refine (T5 _ (Hm.out.below HB5.out h0)).mono ?_
        rintro e w6 ⟨rfl, hb6⟩
        have HB6 := Lib.hid (HB5.out.trans (hb6.mono HB5.out.size))
        clear hb6
        go_wp2_with fail
        refine (lang_at c (by omega) _ hlc _ (Hm.out.below HB6.out h0)).mono ?_
        rintro e w7 ⟨rfl, hb7⟩
        have HB7 := Lib.hid (HB6.out.trans (hb7.mono HB6.out.size))
        clear hb7
        have T6 := lang_at _ Z4.out _ T2
        go_wp2_with fail
        refine (T6 _ (Hm.out.below HB7.out h0)).mono ?_
        rintro e w8 ⟨rfl, hb8⟩
        have HB8 := Lib.hid (HB7.out.trans (hb8.mono HB7.out.size))
        clear hb8
        go_wp2_with fail
        go_ret
        exact ⟨ret_bool (by simp), HB8.out⟩
  | true =>
    cases hmb : mediaF b with
    | false =>
      go_enter Tryd.func5, Tryd.ntmps5
      go_wp2_with fail
      refine (awake_any _ (Hm.out.below HB0.out h0) (by have := HB0.out.size; omega)).mono ?_
      rintro e w1 ⟨rfl, hb1⟩
      have HB1 := Lib.hid (HB0.out.trans (hb1.mono HB0.out.size))
      clear hb1
      go_wp2_with fail
      refine (media_at a (by omega) _ hma _).mono ?_
      rintro e w2 ⟨rfl, hb2⟩
      have HB2 := Lib.hid (HB1.out.trans (hb2.mono HB1.out.size))
      clear hb2
      go_wp2_with fail
      refine (media_at b (by omega) _ hmb _).mono ?_
      rintro e w3 ⟨rfl, hb3⟩
      have HB3 := Lib.hid (HB2.out.trans (hb3.mono HB2.out.size))
      clear hb3
      cases hlb : langS b with
      | false =>
        go_wp2_with fail
        refine (lang_at b (by omega) _ hlb _ (Hm.out.below HB3.out h0)).mono ?_
        rintro e w4 ⟨rfl, hb4⟩
        have HB4 := Lib.hid (HB3.out.trans (hb4.mono HB3.out.size))
        clear hb4
        go_wp2_with fail
        refine (lang_at b (by omega) _ hlb _ (Hm.out.below HB4.out h0)).mono ?_
        rintro e w5 ⟨rfl, hb5⟩
        have HB5 := Lib.hid (HB4.out.trans (hb5.mono HB4.out.size))
        clear hb5
        go_wp2_with fail
        go_ret
        exact ⟨rfl, HB5.out⟩
      | true =>
        cases hlc : langS c with
        | true =>
          have T := Lib.hid ((HJ.out hlb).trans (lang_tags c hlc))
          go_wp2_with fail
          refine (lang_at b (by omega) _ hlb _ (Hm.out.below HB3.out h0)).mono ?_
          rintro e w4 ⟨rfl, hb4⟩
          have HB4 := Lib.hid (HB3.out.trans (hb4.mono HB3.out.size))
          clear hb4
          go_wp2_with fail
          refine (lang_at c (by omega) _ hlc _ (Hm.out.below HB4.out h0)).mono ?_
          rintro e w5 ⟨rfl, hb5⟩
          have HB5 := Lib.hid (HB4.out.trans (hb5.mono HB4.out.size))
          clear hb5
          have T4 := lang_at _ Z3.out _ T.out
          go_wp2_with fail
          refine (T4 _ (Hm.out.below HB5.out h0)).mono ?_
          rintro e w6 ⟨rfl, hb6⟩
          have HB6 := Lib.hid (HB5.out.trans (hb6.mono HB5.out.size))
          clear hb6
          go_wp2_with fail
          refine (lang_at b (by omega) _ hlb _ (Hm.out.below HB6.out h0)).mono ?_
          rintro e w7 ⟨rfl, hb7⟩
          have HB7 := Lib.hid (HB6.out.trans (hb7.mono HB6.out.size))
          clear hb7
          have T5 := lang_at _ Z3.out _ T.out
          go_wp2_with fail
          refine (T5 _ (Hm.out.below HB7.out h0)).mono ?_
          rintro e w8 ⟨rfl, hb8⟩
          have HB8 := Lib.hid (HB7.out.trans (hb8.mono HB7.out.size))
          clear hb8
          go_wp2_with fail
          refine (lang_at c (by omega) _ hlc _ (Hm.out.below HB8.out h0)).mono ?_
          rintro e w9 ⟨rfl, hb9⟩
          have HB9 := Lib.hid (HB8.out.trans (hb9.mono HB8.out.size))
          clear hb9
          go_wp2_with fail
          go_ret
          exact ⟨rfl, HB9.out⟩
        | false =>
          have T := Lib.hid (HJ.out hlb)
          have T2 := HD.out
          generalize tagsF c = q at T T2
          go_wp2_with fail
          refine (lang_at b (by omega) _ hlb _ (Hm.out.below HB3.out h0)).mono ?_
          rintro e w4 ⟨rfl, hb4⟩
          have HB4 := Lib.hid (HB3.out.trans (hb4.mono HB3.out.size))
          clear hb4
          go_wp2_with fail
          refine (lang_at c (by omega) _ hlc _ (Hm.out.below HB4.out h0)).mono ?_
          rintro e w5 ⟨rfl, hb5⟩
          have HB5 := Lib.hid (HB4.out.trans (hb5.mono HB4.out.size))
          clear hb5
          go_wp2_with fail
          refine (lang_at b (by omega) _ hlb _ (Hm.out.below HB5.out h0)).mono ?_
          rintro e w6 ⟨rfl, hb6⟩
          have HB6 := Lib.hid (HB5.out.trans (hb6.mono HB5.out.size))
          clear hb6
          have T5 := lang_at _ Z3.out _ T.out
          go_wp2_with fail
          refine (T5 _ (Hm.out.below HB6.out h0)).mono ?_
          rintro e w7 ⟨rfl, hb7⟩
          have HB7 := Lib.hid (HB6.out.trans (hb7.mono HB6.out.size))
          clear hb7
          go_wp2_with fail
          refine (lang_at c (by omega) _ hlc _ (Hm.out.below HB7.out h0)).mono ?_
          rintro e w8 ⟨rfl, hb8⟩
          have HB8 := Lib.hid (HB7.out.trans (hb8.mono HB7.out.size))
          clear hb8
          have T6 := lang_at _ Z4.out _ T2
          go_wp2_with fail
          refine (T6 _ (Hm.out.below HB8.out h0)).mono ?_
          rintro e w9 ⟨rfl, hb9⟩
          have HB9 := Lib.hid (HB8.out.trans (hb9.mono HB8.out.size))
          clear hb9
          go_wp2_with fail
          go_ret
          exact ⟨ret_bool (by simp), HB9.out⟩
    | true =>
      obtain ⟨a1, a2, hsa, hn1, hn2⟩ := media_parts a hma
      obtain ⟨b1, b2, hsb, hn3, hn4⟩ := media_parts b hmb
      have y1 := splitF_size a 47 a1 (by rw [hsa]; simp)
      have y2 := splitF_size a 47 a2 (by rw [hsa]; simp)
      have y3 := splitF_size b 47 b1 (by rw [hsb]; simp)
      have y4 := splitF_size b 47 b2 (by rw [hsb]; simp)
      have hz : ∀ x y : ByteArray, (x ++ y).size = x.size + y.size := fun x y => ByteArray.size_append
      have hone : (⟨#[47]⟩ : ByteArray).size = 1 := rfl
      have M1 := Lib.hid (media_dr (a1 ++ ⟨#[47]⟩ ++ b2) (by rw [hz, hz, hone]; omega) (media_join a1 b2 hn1 hn4))
      have M2 := Lib.hid (media_dr (b1 ++ ⟨#[47]⟩ ++ a2) (by rw [hz, hz, hone]; omega) (media_join b1 a2 hn3 hn2))
      have S1 := Lib.hid (fun w => rsplit_at a 47 47 rfl (by omega) _ 2 hsa rfl w)
      have S2 := Lib.hid (fun w => rsplit_at b 47 47 rfl (by omega) _ 2 hsb rfl w)
      have x1 : ¬ 9223372036854775807 < a1.size + 1 := by omega
      have x2 : ¬ 9223372036854775807 < a1.size + 1 + b2.size := by omega
      have x3 : ¬ 9223372036854775807 < b1.size + 1 := by omega
      have x4 : ¬ 9223372036854775807 < b1.size + 1 + a2.size := by omega
      clear hz hone hsa hsb hn1 hn2 hn3 hn4
      go_enter Tryd.func5, Tryd.ntmps5
      go_wp2_with fail
      refine (awake_any _ (Hm.out.below HB0.out h0) (by have := HB0.out.size; omega)).mono ?_
      rintro e w1 ⟨rfl, hb1⟩
      have HB1 := Lib.hid (HB0.out.trans (hb1.mono HB0.out.size))
      clear hb1
      go_wp2_with fail
      refine (media_at a (by omega) _ hma _).mono ?_
      rintro e w2 ⟨rfl, hb2⟩
      have HB2 := Lib.hid (HB1.out.trans (hb2.mono HB1.out.size))
      clear hb2
      go_wp2_with fail
      refine (media_at b (by omega) _ hmb _).mono ?_
      rintro e w3 ⟨rfl, hb3⟩
      have HB3 := Lib.hid (HB2.out.trans (hb3.mono HB2.out.size))
      clear hb3
      go_wp2_with fail
      refine (S1.out _).mono ?_
      rintro e w4 ⟨A, kA, rfl, hownA, hb4⟩
      have HownA := Lib.hid (Rd.of_own hownA)
      have HB4 := Lib.hid (HB3.out.trans (hb4.mono HB3.out.size))
      have HblA := Lib.hid hb4
      clear hownA hb4
      go_wp2_with fail
      refine (S2.out _).mono ?_
      rintro e w5 ⟨B, kB, rfl, hownB, hb5⟩
      have HownB := Lib.hid (Rd.of_own hownB)
      have HB5 := Lib.hid (HB4.out.trans (hb5.mono HB4.out.size))
      have HblB := Lib.hid hb5
      clear hownB hb5
      have Hrd := Lib.hid (HownA.out.below HblB.out)
      obtain ⟨B1, o1, rfl, _, hc1⟩ := Hrd.out.at_ (by simp)
      obtain ⟨B2, o2, rfl, _, hc2⟩ := HownB.out.at_ (by simp)
      have c1 : w5.cell? ⟨B1, o1, none⟩ = some (.string a1) := hc1 0 (.string a1) rfl
      have c2 : w5.cell? ⟨B1, o1 + 1, none⟩ = some (.string a2) := hc1 1 (.string a2) rfl
      have c3 : w5.cell? ⟨B2, o2, none⟩ = some (.string b1) := hc2 0 (.string b1) rfl
      have c4 : w5.cell? ⟨B2, o2 + 1, none⟩ = some (.string b2) := hc2 1 (.string b2) rfl
      clear hc1 hc2
      go_wp2_with fail
      go_quiet (first | with_reducible exact M1.out _ _ | with_reducible exact M2.out _ _)
      have HB6 := Lib.hid (HB5.out.trans (Dr.below (B := w.heap.size) (w := w5) ⟨nq, rfl⟩))
      cases hlb : langS b with
      | false =>
        go_wp2_with fail
        refine (lang_at b (by omega) _ hlb _ (Hm.out.below HB6.out h0)).mono ?_
        rintro e w7 ⟨rfl, hb7⟩
        have HB7 := Lib.hid (HB6.out.trans (hb7.mono HB6.out.size))
        clear hb7
        go_wp2_with fail
        refine (lang_at b (by omega) _ hlb _ (Hm.out.below HB7.out h0)).mono ?_
        rintro e w8 ⟨rfl, hb8⟩
        have HB8 := Lib.hid (HB7.out.trans (hb8.mono HB7.out.size))
        clear hb8
        go_wp2_with fail
        go_ret
        exact ⟨rfl, HB8.out⟩
      | true =>
        cases hlc : langS c with
        | true =>
          have T := Lib.hid ((HJ.out hlb).trans (lang_tags c hlc))
          go_wp2_with fail
          refine (lang_at b (by omega) _ hlb _ (Hm.out.below HB6.out h0)).mono ?_
          rintro e w7 ⟨rfl, hb7⟩
          have HB7 := Lib.hid (HB6.out.trans (hb7.mono HB6.out.size))
          clear hb7
          go_wp2_with fail
          refine (lang_at c (by omega) _ hlc _ (Hm.out.below HB7.out h0)).mono ?_
          rintro e w8 ⟨rfl, hb8⟩
          have HB8 := Lib.hid (HB7.out.trans (hb8.mono HB7.out.size))
          clear hb8
          have T4 := lang_at _ Z3.out _ T.out
          go_wp2_with fail
          refine (T4 _ (Hm.out.below HB8.out h0)).mono ?_
          rintro e w9 ⟨rfl, hb9⟩
          have HB9 := Lib.hid (HB8.out.trans (hb9.mono HB8.out.size))
          clear hb9
          go_wp2_with fail
          refine (lang_at b (by omega) _ hlb _ (Hm.out.below HB9.out h0)).mono ?_
          rintro e w10 ⟨rfl, hb10⟩
          have HB10 := Lib.hid (HB9.out.trans (hb10.mono HB9.out.size))
          clear hb10
          have T5 := lang_at _ Z3.out _ T.out
          go_wp2_with fail
          refine (T5 _ (Hm.out.below HB10.out h0)).mono ?_
          rintro e w11 ⟨rfl, hb11⟩
          have HB11 := Lib.hid (HB10.out.trans (hb11.mono HB10.out.size))
          clear hb11
          go_wp2_with fail
          refine (lang_at c (by omega) _ hlc _ (Hm.out.below HB11.out h0)).mono ?_
          rintro e w12 ⟨rfl, hb12⟩
          have HB12 := Lib.hid (HB11.out.trans (hb12.mono HB11.out.size))
          clear hb12
          go_wp2_with fail
          go_ret
          exact ⟨rfl, HB12.out⟩
        | false =>
          have T := Lib.hid (HJ.out hlb)
          have T2 := HD.out
          generalize tagsF c = q at T T2
          go_wp2_with fail
          refine (lang_at b (by omega) _ hlb _ (Hm.out.below HB6.out h0)).mono ?_
          rintro e w7 ⟨rfl, hb7⟩
          have HB7 := Lib.hid (HB6.out.trans (hb7.mono HB6.out.size))
          clear hb7
          go_wp2_with fail
          refine (lang_at c (by omega) _ hlc _ (Hm.out.below HB7.out h0)).mono ?_
          rintro e w8 ⟨rfl, hb8⟩
          have HB8 := Lib.hid (HB7.out.trans (hb8.mono HB7.out.size))
          clear hb8
          go_wp2_with fail
          refine (lang_at b (by omega) _ hlb _ (Hm.out.below HB8.out h0)).mono ?_
          rintro e w9 ⟨rfl, hb9⟩
          have HB9 := Lib.hid (HB8.out.trans (hb9.mono HB8.out.size))
          clear hb9
          have T5 := lang_at _ Z3.out _ T.out
          go_wp2_with fail
          refine (T5 _ (Hm.out.below HB9.out h0)).mono ?_
          rintro e w10 ⟨rfl, hb10⟩
          have HB10 := Lib.hid (HB9.out.trans (hb10.mono HB9.out.size))
          clear hb10
          go_wp2_with fail
          refine (lang_at c (by omega) _ hlc _ (Hm.out.below HB10.out h0)).mono ?_
          rintro e w11 ⟨rfl, hb11⟩
          have HB11 := Lib.hid (HB10.out.trans (hb11.mono HB10.out.size))
          clear hb11
          have T6 := lang_at _ Z4.out _ T2
          go_wp2_with fail
          refine (T6 _ (Hm.out.below HB11.out h0)).mono ?_
          rintro e w12 ⟨rfl, hb12⟩
          have HB12 := Lib.hid (HB11.out.trans (hb12.mono HB11.out.size))
          clear hb12
          go_wp2_with fail
          go_ret
          exact ⟨ret_bool (by simp), HB12.out⟩
end Go.Proofs.YtebfnglhbfkkdaaDoor
