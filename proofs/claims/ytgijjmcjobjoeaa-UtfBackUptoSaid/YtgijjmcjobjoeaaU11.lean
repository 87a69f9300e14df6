import Derived.Test.YtgijjmcjobjoeaaU9
import Derived.Test.YtgijjmcjobjoeaaU10
namespace Go.Proofs.Ytgijjmcjobjoeaa
open Go.RowKit

theorem strNums_empty (xs : List Int) : (strOfNums xs).toList.isEmpty = xs.isEmpty := by
  rw [ByteArray.toList_eq, strOfNums_data]; cases xs <;> rfl

set_option maxHeartbeats 1000000 in
theorem utfPuts_walk (p : Int) (w : World) (hp : -2147483648 ≤ p ∧ p ≤ 2147483647) :
    Calls Try.prog 9 #[.int .i32 p] w fun e w' => e = .returned (.bool true) ∧ Below w.heap.size w w' := by
  have hone : isPt p ∧ oneV (strOfNums (encL p)) 0 = (p, ((strOfNums (encL p)).size : Int)) ∧ (strOfNums (encL p)).toList.isEmpty = false ∨ ¬ isPt p ∧ (strOfNums (encL p)).toList.isEmpty = true := by
    by_cases h : isPt p
    · left
      refine ⟨h, ?_, ?_⟩
      · have := oneV_nat (strOfNums (encL p)) 0
        rw [put_read p h] at this
        exact this
      · have := (encL_pos p h).1
        rw [strNums_empty]
        cases hc : encL p with
        | nil => rw [hc] at this; simp at this
        | cons x l => rfl
    · right
      refine ⟨h, ?_⟩
      rw [strNums_empty]
      unfold isPt at h
      unfold encL
      rw [if_pos (by omega)]
      rfl
  have hsz : (strOfNums (encL p)).size ≤ 4 := by
    rw [strOfNums_size]
    unfold encL; repeat' split
    all_goals simp
  obtain ⟨q, m, hv⟩ : ∃ q m, oneV (strOfNums (encL p)) 0 = (q, m) := ⟨_, _, rfl⟩
  rw [hv] at hone
  generalize hS : strOfNums (encL p) = S at *
  have HS := Lib.hid hS
  have Hv := Lib.hid hv
  have e1 := eqS (show S = S from rfl)
  clear hv hS
  rcases hone with ⟨_, hone, hem⟩ | ⟨_, hem⟩
  · injection hone with h1 h2
    subst h1
    subst h2
    go_enter Try.func9, Try.ntmps9
    go_wp2_with fail
    refine (put_any q hp _).mono ?_
    rw [HS.out]
    rintro e w1 ⟨rfl, hb1⟩
    have HB1 := Lib.hid hb1
    have z1 := hb1.size
    clear hb1
    go_wp2_with fail
    refine (one_any S 0 (by omega) (by omega) _).mono ?_
    rw [Hv.out]
    rintro e w' ⟨rfl, rfl⟩
    go_wp2_with fail
    refine (bytes_any q (by omega) _).mono ?_
    rintro e w2 ⟨A1, c1, rfl, ho1, hb2⟩
    have HB2 := Lib.hid (HB1.out.trans (hb2.mono z1))
    have z2 := hb2.size
    have hcv := conv_own ho1
    rw [HS.out] at hcv
    clear hb2 ho1
    go_wp2_with fail
    refine (uawake_any _).mono ?_
    rintro e w3 ⟨rfl, hb3⟩
    have HB3 := Lib.hid (HB2.out.trans (hb3.mono (by omega)))
    clear hb3
    go_wp2_with fail
    go_ret
    exact ⟨ret_bool (by simp), HB3.out⟩
  · go_enter Try.func9, Try.ntmps9
    go_wp2_with fail
    refine (put_any p hp _).mono ?_
    rw [HS.out]
    rintro e w1 ⟨rfl, hb1⟩
    have HB1 := Lib.hid hb1
    have z1 := hb1.size
    clear hb1
    go_wp2_with fail
    refine (one_any S 0 (by omega) (by omega) _).mono ?_
    rw [Hv.out]
    rintro e w' ⟨rfl, rfl⟩
    go_wp2_with fail
    refine (bytes_any p (by omega) _).mono ?_
    rintro e w2 ⟨A1, c1, rfl, ho1, hb2⟩
    have HB2 := Lib.hid (HB1.out.trans (hb2.mono z1))
    have z2 := hb2.size
    have hcv := conv_own ho1
    rw [HS.out] at hcv
    clear hb2 ho1
    go_wp2_with fail
    refine (uawake_any _).mono ?_
    rintro e w3 ⟨rfl, hb3⟩
    have HB3 := Lib.hid (HB2.out.trans (hb3.mono (by omega)))
    clear hb3
    go_wp2_with fail
    go_ret
    exact ⟨ret_bool (by simp), HB3.out⟩
end Go.Proofs.Ytgijjmcjobjoeaa
