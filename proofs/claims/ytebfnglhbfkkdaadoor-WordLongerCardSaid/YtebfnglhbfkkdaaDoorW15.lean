import Derived.Test.YtebfnglhbfkkdaaDoorW14
namespace Go.Proofs.YtebfnglhbfkkdaaDoor
open Go.RowKit Go.Shelf

theorem conv_one (w : World) (x : Int) : (convert 28 9 (.slice (some ⟨w.heap.size, 0, none⟩) 1 1)).run Tryd.prog (w.alloc (.cells #[.int .u8 x] 5)) = .ok (.string ⟨#[byt x]⟩) (w.alloc (.cells #[.int .u8 x] 5)) := by
  refine run_convert_bytes_arg _ 28 5 Tryd.underlying28 Tryd.underlying5 w.heap.size 0 1 1 [x] rfl ?_ 9 Tryd.underlying9
  intro i hi
  obtain rfl : i = 0 := by omega
  simp [World.cell?_alloc_new]
theorem bad_step (k : Nat) (hk : k < (⟨#[34, 60, 62, 92, 94, 96, 123, 124, 125]⟩ : ByteArray).size) (x : Int) : badAt (k + 1) x = (badAt k x || (x == (((⟨#[34, 60, 62, 92, 94, 96, 123, 124, 125]⟩ : ByteArray)[k]'hk).toNat : Int))) := by
  unfold badAt
  have hl : k < badL.length := hk
  rw [take_succ_eq badL k hl, List.any_append]
  simp only [List.any_cons, List.any_nil, Bool.or_false]
  congr 1

set_option maxHeartbeats 2000000 in
theorem wordLonger_walk (s : ByteArray) (n : Int) (w : World) (hs : s.size ≤ 140737488351232) (hn : 0 ≤ n ∧ n ≤ 255) (hm : MaxAt w) (h0 : 0 < w.heap.size) :
    Calls Tryd.prog 6 #[.string s, .int .u8 n] w fun e w' => e = .returned (.bool true) ∧ Below w.heap.size w w' := by
  have Hm := Lib.hid hm
  clear hm
  obtain ⟨hn0, hn1⟩ := hn
  have hx0 : 33 ≤ 33 + n % 94 := by omega
  have hx1 : 33 + n % 94 ≤ 126 := by omega
  have hcv := conv_one w (33 + n % 94)
  have hz : (s ++ (⟨#[byt (33 + n % 94)]⟩ : ByteArray)).size = s.size + 1 := by rw [ByteArray.size_append]; rfl
  have Hz := Lib.hid hz
  clear hz
  have HB1 := Lib.hid ((Below.refl w.heap.size w).alloc (Nat.le_refl _) (.cells #[.int .u8 (33 + n % 94)] 5))
  have hr := rest_bad (33 + n % 94) hx0 hx1
  have hbt : ((byt (33 + n % 94)).toNat : Int) = 33 + n % 94 := byt_toNat _ (by omega) (by omega)
  have Hu : Hid (uriF s = true → uriF (s ++ ⟨#[byt (33 + n % 94)]⟩) = !inC badL (33 + n % 94)) := Lib.hid fun h => by rw [uri_more s _ h, hbt, hr]
  have Ho : Hid (otherF s = true → otherF (s ++ ⟨#[byt (33 + n % 94)]⟩) = true) := Lib.hid (other_more s _)
  clear hr hbt
  go_enter Tryd.func6, Tryd.ntmps6
  go_wp2_with fail
  generalize s ++ (⟨#[byt (33 + n % 94)]⟩ : ByteArray) = t at Hz Hu Ho ⊢
  go_loopw [7, 8] (fun t7 t8 wr => ∃ k : Nat, k ≤ 9 ∧ t8 = .int .i64 k ∧ Hid (t7 = .bool (badAt k (33 + n % 94))) ∧ wr = w.alloc (.cells #[.int .u8 (33 + n % 94)] 5)) (fun _ t8 _ => 9 - (intOf t8).toNat)
  case atStart => exact ⟨0, Nat.zero_le _, rfl, Lib.hid rfl, rfl⟩
  case round =>
    obtain ⟨k, hk, rfl, H7, rfl⟩ := hrel
    by_cases hlt : k < 9
    · have hst := bad_step k hlt (33 + n % 94)
      have Hst := Lib.hid hst
      clear hst
      cases hb : badAt k (33 + n % 94) with
      | true =>
        rw [hb] at H7 Hst
        obtain rfl := H7.out
        go_wp2
        go_roundw
        case rel => exact ⟨k + 1, by omega, by go_num, Lib.hid (by rw [Hst.out]; rfl), trivial⟩
        case measure => simp [intOf]; omega
      | false =>
        rw [hb] at H7 Hst
        obtain rfl := H7.out
        go_wp2
        go_roundw
        case rel => exact ⟨k + 1, by omega, by go_num, Lib.hid (by rw [Hst.out]; rfl), trivial⟩
        case measure => simp [intOf]; omega
    · obtain rfl : k = 9 := by omega
      rw [badAt_all _ (by omega) (by omega)] at H7
      have Hb : Hid (∃ b, inC badL (33 + n % 94) = b) := Lib.hid ⟨_, rfl⟩
      cases hu : uriF s with
      | false =>
        go_wp2_with fail
        refine (uri_at s (by omega) _ hu _).mono ?_
        rintro e w1 ⟨rfl, hb1⟩
        have z1 := hb1.size
        have HB2 := Lib.hid (HB1.out.trans (hb1.mono (by simp)))
        clear hb1
        go_wp2_with fail
        refine (awake_any _ (Hm.out.below HB2.out h0) (by have := HB2.out.size; omega)).mono ?_
        rintro e w2 ⟨rfl, hb2⟩
        have z2 := hb2.size
        have HB3 := Lib.hid (HB2.out.trans (hb2.mono HB2.out.size))
        clear hb2
        cases ho : otherF s with
        | false =>
          go_wp2_with fail
          refine (others_at s (by omega) _ ho _).mono ?_
          rintro e w3 ⟨rfl, hb3⟩
          have HB4 := Lib.hid (HB3.out.trans (hb3.mono HB3.out.size))
          clear hb3
          go_wp2_with fail
          go_ret
          exact ⟨rfl, HB4.out⟩
        | true =>
          go_wp2_with fail
          refine (others_at s (by omega) _ ho _).mono ?_
          rintro e w3 ⟨rfl, hb3⟩
          have HB4 := Lib.hid (HB3.out.trans (hb3.mono HB3.out.size))
          clear hb3
          go_wp2_with fail
          refine (others_at t (by have := Hz.out; omega) _ (Ho.out ho) _).mono ?_
          rintro e w4 ⟨rfl, hb4⟩
          have HB5 := Lib.hid (HB4.out.trans (hb4.mono HB4.out.size))
          clear hb4
          go_wp2_with fail
          go_ret
          exact ⟨rfl, HB5.out⟩
      | true =>
        obtain ⟨b, hb⟩ := Hb.out
        have Hu2 := Lib.hid (Hu.out hu)
        rw [hb] at H7 Hu2
        obtain rfl := H7.out
        go_wp2_with fail
        refine (uri_at s (by omega) _ hu _).mono ?_
        rintro e w1 ⟨rfl, hb1⟩
        have z1 := hb1.size
        have HB2 := Lib.hid (HB1.out.trans (hb1.mono (by simp)))
        clear hb1
        go_wp2_with fail
        refine (uri_at t (by have := Hz.out; omega) _ Hu2.out _).mono ?_
        rintro e w2 ⟨rfl, hb2⟩
        have z2 := hb2.size
        have HB3 := Lib.hid (HB2.out.trans (hb2.mono HB2.out.size))
        clear hb2
        have q : ((!b) == b) = false := by cases b <;> rfl
        go_wp2_with fail
        refine (awake_any _ (Hm.out.below HB3.out h0) (by have := HB3.out.size; omega)).mono ?_
        rintro e w3 ⟨rfl, hb3⟩
        have HB4 := Lib.hid (HB3.out.trans (hb3.mono HB3.out.size))
        clear hb3
        cases ho : otherF s with
        | false =>
          go_wp2_with fail
          refine (others_at s (by omega) _ ho _).mono ?_
          rintro e w4 ⟨rfl, hb4⟩
          have HB5 := Lib.hid (HB4.out.trans (hb4.mono HB4.out.size))
          clear hb4
          go_wp2_with fail
          go_ret
          exact ⟨rfl, HB5.out⟩
        | true =>
          go_wp2_with fail
          refine (others_at s (by omega) _ ho _).mono ?_
          rintro e w4 ⟨rfl, hb4⟩
          have HB5 := Lib.hid (HB4.out.trans (hb4.mono HB4.out.size))
          clear hb4
          go_wp2_with fail
          refine (others_at t (by have := Hz.out; omega) _ (Ho.out ho) _).mono ?_
          rintro e w5 ⟨rfl, hb5⟩
          have HB6 := Lib.hid (HB5.out.trans (hb5.mono HB5.out.size))
          clear hb5
          go_wp2_with fail
          go_ret
          exact ⟨rfl, HB6.out⟩
end Go.Proofs.YtebfnglhbfkkdaaDoor
