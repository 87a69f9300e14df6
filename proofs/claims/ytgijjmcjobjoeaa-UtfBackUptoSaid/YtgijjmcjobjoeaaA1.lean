import Derived.Test.YtgijjmcjobjoeaaRows
import Derived.WalkKit
import Derived.WalkSpells
import Derived.WalkLawsBesides
import Derived.Deep.QuietTactic
import Derived.BigQuiet
import Derived.Test.YtgijjmcjobjoeaaMem
namespace Go.Proofs.Ytgijjmcjobjoeaa
open Go.RowKit

/-- within what may be -/
def nearF (n : Int) : Int := if n < -9007199254740991 then -9007199254740991 else if 9007199254740991 < n then 9007199254740991 else n

set_option maxHeartbeats 400000 in
theorem near_any (n : Int) (w : World) (h : -9223372036854775808 ≤ n ∧ n ≤ 9223372036854775807) :
    Calls Try.prog 28 #[.int .i64 n] w fun e w' => e = .returned (.int .i64 (nearF n)) ∧ w = w' := by
  go_enter Try.func28, Try.ntmps28
  go_wp2
  all_goals go_ret
  all_goals exact ⟨ret_int (by unfold nearF; repeat' split
                               all_goals omega), rfl⟩

set_option maxHeartbeats 400000 in
theorem rnear_any (n : Int) (w : World) (h : -9223372036854775808 ≤ n ∧ n ≤ 9223372036854775807) :
    Calls Try.prog 31 #[.int .i64 n] w fun e w' => e = .returned (.int .i64 (nearF n)) ∧ w = w' := by
  go_enter Try.func31, Try.ntmps31
  go_wp2
  all_goals go_ret
  all_goals exact ⟨ret_int (by unfold nearF; repeat' split
                               all_goals omega), rfl⟩

set_option maxHeartbeats 400000 in
theorem same_any (A C : Option Addr) (n m ca cc B : Nat) (xs ys : List ByteArray) (w : World) (hx : Rd w B A (xs.map Value.string)) (hy : Rd w B C (ys.map Value.string))
    (hn : xs.length = n) (hm : ys.length = m) (bn : n ≤ 9223372036854775807) (bm : m ≤ 9223372036854775807) :
    Calls Try.prog 17 #[.slice A n ca, .slice C m cc] w fun e w' => e = .returned (.bool (decide (xs = ys))) ∧ Dr w w' := by
  have Hn := Lib.hid hn
  have Hm := Lib.hid hm
  clear hn hm
  have Hx := Lib.hid hx
  have Hy := Lib.hid hy
  clear hx hy
  by_cases hnm : n = m
  · subst hnm
    go_enter Try.func17, Try.ntmps17
    go_wp2
    go_loopw [5] (fun i wr => ∃ k : Nat, k ≤ n ∧ i = .int .i64 k ∧ xs.take k = ys.take k ∧ Dr w wr) (fun i _ => n - (intOf i).toNat)
    case atStart => exact ⟨0, Nat.zero_le _, rfl, rfl, Dr.refl _⟩
    case round =>
      obtain ⟨k, hk, rfl, he, ⟨q, rfl⟩⟩ := hrel
      have He := Lib.hid he
      clear he
      by_cases hlt : k < n
      · have lx : k < xs.length := by rw [Hn.out]; exact hlt
        have ly : k < ys.length := by rw [Hm.out]; exact hlt
        obtain ⟨b, off, rfl, _, hc⟩ := Hx.out.at_ (by simp; omega)
        obtain ⟨b2, off2, rfl, _, hc2⟩ := Hy.out.at_ (by simp; omega)
        have h1 := hc k (.string xs[k]) (by simp [lx])
        have h2 := hc2 k (.string ys[k]) (by simp [ly])
        clear hc hc2
        have Hk : Hid ((xs.take (k + 1) = ys.take (k + 1)) ↔ xs[k] = ys[k]) := Lib.hid (take_eq_step lx ly He.out)
        have Hk' : Hid (xs[k] ≠ ys[k] → decide (xs = ys) = false) := Lib.hid (fun h => by
          rw [decide_eq_false_iff_not]; rintro rfl; exact h rfl)
        generalize xs[k] = x at *
        generalize ys[k] = y at *
        by_cases hxy : x = y
        · have e1 := eqS hxy
          have He := Lib.hid hxy
          clear hxy
          go_wp2
          go_quiet (fail)
          go_wp2
          go_roundw
          case rel => exact ⟨k + 1, by omega, by go_num, Hk.out.2 He.out, ⟨_, rfl⟩⟩
          case measure => simp [intOf]; omega
        · have e1 := neS hxy
          have He := Lib.hid hxy
          clear hxy
          go_wp2
          go_quiet (fail)
          go_wp2
          go_ret
          exact ⟨ret_bool (Hk'.out He.out).symm, (Dr.n ⟨_, rfl⟩ _)⟩
      · go_wp2
        go_ret
        refine ⟨ret_bool ?_, ⟨_, rfl⟩⟩
        have h := He.out
        rw [List.take_of_length_le (by rw [Hn.out]; omega), List.take_of_length_le (by rw [Hm.out]; omega)] at h
        simp [h]
  · have hne : (n == m) = false := by simpa using hnm
    have H2 := Lib.hid hnm
    clear hnm
    go_enter Try.func17, Try.ntmps17
    go_wp2
    go_ret
    refine ⟨ret_bool ?_, Dr.refl _⟩
    have := H2.out
    symm
    rw [decide_eq_false_iff_not]
    rintro rfl
    exact this (by rw [← Hn.out, ← Hm.out])
end Go.Proofs.Ytgijjmcjobjoeaa
