import Derived.Test.YtebfnglhbfkkdaaF3
namespace Go.Proofs.Ytebfnglhbfkkdaa
open Go.RowKit

theorem cmp_less : ∀ (a b : List UInt8), Lib.compareBytes a b = if Op.bytesLess a b = true then -1 else if a = b then 0 else 1
  | [], [] => by simp [Lib.compareBytes, Op.bytesLess]
  | [], _ :: _ => by simp [Lib.compareBytes, Op.bytesLess]
  | _ :: _, [] => by simp [Lib.compareBytes, Op.bytesLess]
  | a :: r, b :: t => by
    have ih := cmp_less r t
    unfold Lib.compareBytes Op.bytesLess
    rcases Nat.lt_trichotomy a.toNat b.toNat with h | h | h
    · have h1 : a < b := UInt8.lt_iff_toNat_lt.2 h
      simp [h1]
    · have h1 : a = b := UInt8.toNat_inj.1 h
      subst h1
      have h2 : ¬ a < a := fun h => by have := UInt8.lt_iff_toNat_lt.1 h; omega
      simp [ih, h2]
    · have h1 : b < a := UInt8.lt_iff_toNat_lt.2 h
      have h2 : ¬ a < b := fun h' => by have := UInt8.lt_iff_toNat_lt.1 h'; omega
      have h3 : a ≠ b := fun e => by subst e; omega
      simp [h1, h2, h3]
theorem ret_i {a b : Int} (h : a = b) : Ending.returned (.int .i64 a) = .returned (.int .i64 b) := by rw [h]

set_option maxHeartbeats 400000 in
theorem rcomp_any (a b : ByteArray) (ha : a.size ≤ 1000000) (hb : b.size ≤ 1000000) (w : World) :
    Calls Try.prog 15 #[.string a, .string b] w fun e w' => e = .returned (.int .i64 (cmpF a b)) ∧ Below w.heap.size w w' := by
  go_enter Try.func15, Try.ntmps15
  go_wp2_with fail
  refine (rfold_any a (by omega) _).mono ?_
  rintro e w1 ⟨rfl, hb1⟩
  go_wp2_with fail
  refine (rfold_any b (by omega) _).mono ?_
  rintro e w2 ⟨rfl, hb2⟩
  have hb3 := hb1.trans (hb2.mono hb1.size)
  have Hb3 := Lib.hid hb3
  have hc : cmpF a b = Lib.compareBytes (foldS a).data.toList (foldS b).data.toList := rfl
  generalize foldS a = x at *
  generalize foldS b = y at *
  rw [cmp_less, ← ByteArray.toList_eq, ← ByteArray.toList_eq] at hc
  cases h1 : Op.bytesLess x.toList y.toList with
  | true =>
    rw [h1, if_pos rfl] at hc
    have Hc := Lib.hid hc
    clear hc
    go_wp2
    go_ret
    exact ⟨ret_i Hc.out.symm, Hb3.out⟩
  | false =>
    rw [h1, if_neg (by decide)] at hc
    by_cases hxy : x.toList = y.toList
    · rw [if_pos hxy] at hc
      have Hc := Lib.hid hc
      have e1 : (x.toList == y.toList) = true := beq_iff_eq.2 hxy
      clear hc hxy
      go_wp2
      go_ret
      exact ⟨ret_i Hc.out.symm, Hb3.out⟩
    · rw [if_neg hxy] at hc
      have Hc := Lib.hid hc
      have e1 : (x.toList == y.toList) = false := beq_eq_false_iff_ne.2 hxy
      clear hc hxy
      go_wp2
      go_ret
      exact ⟨ret_i Hc.out.symm, Hb3.out⟩
end Go.Proofs.Ytebfnglhbfkkdaa
