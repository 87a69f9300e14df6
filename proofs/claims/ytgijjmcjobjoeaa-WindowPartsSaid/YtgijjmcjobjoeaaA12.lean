import Derived.Test.YtgijjmcjobjoeaaA9
namespace Go.Proofs.Ytgijjmcjobjoeaa
open Go.RowKit

theorem parts_cut (xs : List ByteArray) (a : Nat) (k : Nat) (ha : a ≤ 500) (hk : k ≤ 256) : cutF xs a 0 k ⟨#[]⟩ = ((xs.drop a).take k, (a : Int), 0) := by
  have e : nearF (a : Int) = a := by unfold nearF; rw [if_neg (by omega), if_neg (by omega)]
  have e2 : nearF (k : Int) = k := by unfold nearF; rw [if_neg (by omega), if_neg (by omega)]
  unfold cutF
  rw [if_pos emp_empty, e, if_neg (by omega)]
  unfold cutAt
  rw [e2, if_neg (by omega), Int.toNat_natCast, Int.toNat_natCast]
theorem parts_step (xs : List ByteArray) (a k : Nat) : xs.take a ++ (xs.drop a).take k = xs.take (a + ((xs.drop a).take k).length) := by
  rw [List.take_add]
  congr 1
  rw [List.length_take, List.length_drop]
  by_cases h : k ≤ xs.length - a
  · rw [Nat.min_eq_left h]
  · rw [Nat.min_eq_right (by omega), List.take_of_length_le (by rw [List.length_drop]; omega), List.take_of_length_le (by rw [List.length_drop]; omega)]

set_option maxHeartbeats 2000000 in
theorem windowParts_walk (A : Option Addr) (n ca : Nat) (xs : List ByteArray) (kk : Int) (w : World) (hx : Rd w w.heap.size A (xs.map Value.string))
    (hn : xs.length = n) (hcap : n ≤ ca) (hre : ca * 16 ≤ 140737488351232) (h0 : A = none → n = 0) (bk : 0 ≤ kk ∧ kk ≤ 255) :
    Calls Try.prog 4 #[.slice A n ca, .int .u8 kk] w fun e w' => e = .returned (.bool true) ∧ Below w.heap.size w w' := by
  obtain ⟨k, rfl⟩ := Int.eq_ofNat_of_zero_le bk.1
  have H0 := Lib.hid h0
  have Hn := Lib.hid hn
  have Hx := Lib.hid hx
  clear hx hn h0
  by_cases hlong : 500 < n
  · go_enter Try.func4, Try.ntmps4
    go_wp2_with (go_at_call 16; refine (awake_any _).mono ?_; rintro e w3 ⟨rfl, hb3⟩)
    go_ret
    exact ⟨rfl, hb3⟩
  · go_enter Try.func4, Try.ntmps4
    go_wp2_with fail
    refine (awake_any _).mono ?_
    rintro e w1 ⟨rfl, hb1⟩
    have z1 : w.heap.size ≤ w1.heap.size := hb1.size
    have HB1 := Lib.hid hb1
    have Hx1 := Lib.hid (Hx.out.below hb1)
    clear hb1
    go_wp2_with fail
    go_loopw [6, 7] (fun v i wr => ∃ (j a : Nat), j ≤ a ∧ a ≤ n ∧ i = .int .i64 j ∧ wr.ownsRow w.heap.size 9 1 v a ((xs.take a).map Value.string) ∧ Below w.heap.size w1 wr) (fun _ i _ => n + 1 - (intOf i).toNat)
    case atStart => exact ⟨0, 0, Nat.le_refl _, Nat.zero_le _, rfl, World.ownsRow_nil _ _ _ _, Below.refl _ _⟩
    case round =>
      obtain ⟨j, a, hja, han, rfl, hown, hbw⟩ := hrel
      obtain ⟨A1, c1, rfl⟩ := own_form hown
      have z2 := hbw.size
      have hr := parts_cut xs a (1 + k) (by omega) (by omega)
      have Hr := Lib.hid hr
      have hp := parts_step xs a (1 + k)
      have Hp := Lib.hid hp
      have hlen : ((xs.drop a).take (1 + k)).length = min (1 + k) (n - a) := by rw [List.length_take, List.length_drop, Hn.out]
      obtain ⟨m, hm⟩ : ∃ m, ((xs.drop a).take (1 + k)).length = m := ⟨_, rfl⟩
      have hmm : m = min (1 + k) (n - a) := by rw [← hm, hlen]
      have hm1 : m ≤ 1 + k := by omega
      have hm2 : a + m ≤ n := by omega
      have hm3 : m = 0 → a = n := by omega
      have Hm3 := Lib.hid hm3
      have Hm := Lib.hid hm
      have Hbw := Lib.hid hbw
      have Hxr := Lib.hid (Hx1.out.below hbw)
      have Hown := Lib.hid hown
      clear hr hp hlen hm hmm hbw hm3 hown
      go_wp2_with fail
      refine (cut_any A n ca w.heap.size xs a 0 ((1 : Int) + k) ⟨#[]⟩ _ Hxr.out Hn.out (by omega) hcap hre H0.out (by omega) (by omega) (by omega) (by omega)).mono ?_
      rw [show ((1 : Int) + k) = ((1 + k : Nat) : Int) from by omega, Hr.out]
      rintro e w2 ⟨A2, c2, rfl, ho2, hb2⟩
      simp only [Hm.out] at ho2 ⊢
      have z3 : wr.heap.size ≤ w2.heap.size := hb2.size
      have Hb2 := Lib.hid (Hbw.out.trans (hb2.mono (by omega)))
      have hown2 := own_below Hown.out hb2 (Nat.le_refl _)
      have Hr2 := Lib.hid (Rd.of_own ho2)
      clear hb2 ho2
      by_cases hm0 : m = 0
      · have hmz : ((m : Int) == 0) = true := by simp [hm0]
        have han2 := Hm3.out hm0
        have Hxs : Hid (xs.take a = xs) := Lib.hid (by rw [han2, ← Hn.out, List.take_length])
        have Hown2 := Lib.hid (Rd.of_own hown2)
        have Ha := Lib.hid han2
        have Hxw := Lib.hid (Hx1.out.below Hb2.out)
        clear han2 hown2
        go_wp2_with fail
        refine (same_any _ _ _ _ _ _ w2.heap.size (xs.take a) xs _ Hown2.out (Hxw.out.mono (by omega)) (by rw [List.length_take, Hn.out]; omega) Hn.out (by omega) (by omega)).mono ?_
        rintro e w4 ⟨rfl, hd4⟩
        have HB4 := Lib.hid ((HB1.out.trans Hb2.out).trans (hd4.below (B := w.heap.size)))
        clear hd4
        go_wp2_with fail
        go_ret
        exact ⟨ret_bool (by simp [Hxs.out]), HB4.out⟩
      · have hmz : ((m : Int) == 0) = false := by simp [hm0]
        go_wp2_with (at_builtin; refine wpList_app _ rfl _ _ 22 9 rfl w.heap.size _ 16 Try.underlying22 info9 rfl _ a _ rfl hown2 w2.heap.size _ m _ (((xs.drop a).take (1 + k)).map Value.string) rfl Hr2.out ?c2 (one_str _) ?c3 ?c4 ?c5 ?_)
        case c2 => rw [List.length_map]; exact Hm.out
        case c3 => omega
        case c4 => first | omega | (simp only [maxLen]; omega)
        case c5 => omega
        intro v' w3 hown3 hgrow
        have hb3 := Below.own Hb2.out hown2 hgrow (by omega) (Nat.le_refl _)
        have hown4 : w3.ownsRow w.heap.size 9 1 v' (a + m) ((xs.take (a + m)).map Value.string) := by
          have e := Hp.out
          rw [Hm.out] at e
          rw [← e, List.map_append, List.map_take, List.map_take, List.map_drop]
          exact hown3
        clear hown3 hown2 hgrow
        go_wp2
        go_roundw
        case rel => exact ⟨j + 1, a + m, by omega, by omega, by go_num, hown4, hb3⟩
        case measure => simp [intOf]; omega
end Go.Proofs.Ytgijjmcjobjoeaa
