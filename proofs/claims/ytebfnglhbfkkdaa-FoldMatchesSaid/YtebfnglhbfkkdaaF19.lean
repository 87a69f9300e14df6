import Derived.Test.YtebfnglhbfkkdaaF16
namespace Go.Proofs.Ytebfnglhbfkkdaa
open Go.RowKit

set_option maxHeartbeats 2000000 in
theorem foldMatches_walk (q a b : ByteArray) (w : World) (hq : q.size ≤ 140737488351232) (ha : a.size ≤ 140737488351232) (hb : b.size ≤ 140737488351232) (hm : MaxAt w) (h0 : 0 < w.heap.size) :
    Calls Try.prog 5 #[.string q, .string a, .string b] w fun e w' => e = .returned (.bool true) ∧ Below w.heap.size w w' := by
  have Hm := Lib.hid hm
  clear hm
  by_cases h1 : 500 < q.size
  · go_enter Try.func5, Try.ntmps5
    go_wp2_with fail
    refine (awake_any _ Hm.out h0).mono ?_
    rintro e w1 ⟨rfl, hb1⟩
    go_wp2_with fail
    go_ret
    exact ⟨rfl, hb1⟩
  · by_cases h2 : 2000 < a.size
    · go_enter Try.func5, Try.ntmps5
      go_wp2_with fail
      refine (awake_any _ Hm.out h0).mono ?_
      rintro e w1 ⟨rfl, hb1⟩
      go_wp2_with fail
      go_ret
      exact ⟨rfl, hb1⟩
    · by_cases h3 : 2000 < b.size
      · go_enter Try.func5, Try.ntmps5
        go_wp2_with fail
        refine (awake_any _ Hm.out h0).mono ?_
        rintro e w1 ⟨rfl, hb1⟩
        go_wp2_with fail
        go_ret
        exact ⟨rfl, hb1⟩
      · have zq := foldS_size q
        have za := foldS_size a
        have zc : (b ++ a ++ b).size ≤ 6000 := by rw [ByteArray.size_append, ByteArray.size_append]; omega
        have HB0 : Hid (Below w.heap.size w w) := Lib.hid (Below.refl _ _)
        have Hfold := Lib.hid (matchF_fold q a)
        have Hnil : Hid (matchF ⟨#[]⟩ [] = true) := Lib.hid (matchF_nil _ _ rfl)
        cases hone : matchF q [a] with
        | true =>
          have Hone := Lib.hid hone
          have Hf2 : Hid (matchF (foldS q) [foldS a] = true) := Lib.hid (by rw [matchF_fold]; exact hone)
          have Hmid := Lib.hid (matchF_mid q a b hone)
          have Htwo := Lib.hid (matchF_two q a b hone)
          clear hone
          go_enter Try.func5, Try.ntmps5
          go_wp2_with fail
          have hl1 := rd_lit w ([a].map Value.string) 9
          have hB1 := HB0.out.alloc (by omega) (.cells #[.string a] 9)
          refine (match_std q _ 1 1 (w.heap.size + 1) [a] (by omega) (by intro x hx; simp at hx; subst hx; (first | omega | (simp; omega))) _ hl1 (by simp) rfl (by omega) (Hm.out.below hB1 h0) (by simp) _ Hone.out).mono ?_
          rintro e w1 ⟨rfl, hb1⟩
          have z1 : w.heap.size + 1 ≤ w1.heap.size := by have := hb1.size; simpa using this
          have HB1 := Lib.hid (hB1.trans (hb1.mono (by rw [World.size_alloc]; omega)))
          clear hl1 hB1 hb1
          go_wp2_with fail
          refine (awake_any _ (Hm.out.below HB1.out h0) (by omega)).mono ?_
          rintro e w2 ⟨rfl, hb2⟩
          have z2 : w1.heap.size ≤ w2.heap.size := hb2.size
          have HB2 := Lib.hid (HB1.out.trans (hb2.mono (by omega)))
          clear hb2
          go_wp2_with fail
          refine (fold_any q (by omega) _).mono ?_
          rintro e w3 ⟨rfl, hb3⟩
          have z3 : w2.heap.size ≤ w3.heap.size := hb3.size
          have HB3 := Lib.hid (HB2.out.trans (hb3.mono (by omega)))
          clear hb3
          go_wp2_with fail
          refine (fold_any a (by omega) _).mono ?_
          rintro e w4 ⟨rfl, hb4⟩
          have z4 : w3.heap.size ≤ w4.heap.size := hb4.size
          have HB4 := Lib.hid (HB3.out.trans (hb4.mono (by omega)))
          clear hb4
          go_wp2_with fail
          have hl5 := rd_lit w4 ([foldS a].map Value.string) 9
          have hB5 := HB4.out.alloc (by omega) (.cells #[.string (foldS a)] 9)
          refine (match_std (foldS q) _ 1 1 (w4.heap.size + 1) [foldS a] (by omega) (by intro x hx; simp at hx; subst hx; (first | omega | (simp; omega))) _ hl5 (by simp) rfl (by omega) (Hm.out.below hB5 h0) (by simp) _ Hf2.out).mono ?_
          rintro e w5 ⟨rfl, hb5⟩
          have z5 : w4.heap.size + 1 ≤ w5.heap.size := by have := hb5.size; simpa using this
          have HB5 := Lib.hid (hB5.trans (hb5.mono (by rw [World.size_alloc]; omega)))
          clear hl5 hB5 hb5
          go_wp2_with fail
          have hl6 := rd_lit w5 ([b ++ a ++ b].map Value.string) 9
          have hB6 := HB5.out.alloc (by omega) (.cells #[.string (b ++ a ++ b)] 9)
          refine (match_std q _ 1 1 (w5.heap.size + 1) [b ++ a ++ b] (by omega) (by intro x hx; simp at hx; subst hx; (first | omega | (simp; omega))) _ hl6 (by simp) rfl (by omega) (Hm.out.below hB6 h0) (by simp) _ Hmid.out).mono ?_
          rintro e w6 ⟨rfl, hb6⟩
          have z6 : w5.heap.size + 1 ≤ w6.heap.size := by have := hb6.size; simpa using this
          have HB6 := Lib.hid (hB6.trans (hb6.mono (by rw [World.size_alloc]; omega)))
          clear hl6 hB6 hb6
          go_wp2_with fail
          have hl7 := rd_lit w6 ([b, a].map Value.string) 9
          have hB7 := HB6.out.alloc (by omega) (.cells #[.string b, .string a] 9)
          refine (match_std q _ 2 2 (w6.heap.size + 1) [b, a] (by omega) (by intro x hx; simp at hx; rcases hx with rfl | rfl <;> omega) _ hl7 (by simp) rfl (by omega) (Hm.out.below hB7 h0) (by simp) _ Htwo.out).mono ?_
          rintro e w7 ⟨rfl, hb7⟩
          have z7 : w6.heap.size + 1 ≤ w7.heap.size := by have := hb7.size; simpa using this
          have HB7 := Lib.hid (hB7.trans (hb7.mono (by rw [World.size_alloc]; omega)))
          clear hl7 hB7 hb7
          go_wp2_with fail
          refine (match_std _ none 0 0 0 [] (by decide) (by intro x hx; cases hx) _ Rd.nil (Nat.zero_le _) rfl (by omega) (Hm.out.below HB7.out h0) (by omega) _ Hnil.out).mono ?_
          rintro e w8 ⟨rfl, hb8⟩
          have z8 : w7.heap.size ≤ w8.heap.size := hb8.size
          have HB8 := Lib.hid (HB7.out.trans (hb8.mono (by omega)))
          clear hb8
          go_wp2_with fail
          go_ret
          exact ⟨rfl, HB8.out⟩
        | false =>
          have Hone := Lib.hid hone
          have Hf2 : Hid (matchF (foldS q) [foldS a] = false) := Lib.hid (by rw [matchF_fold]; exact hone)
          clear hone
          go_enter Try.func5, Try.ntmps5
          go_wp2_with fail
          have hl1 := rd_lit w ([a].map Value.string) 9
          have hB1 := HB0.out.alloc (by omega) (.cells #[.string a] 9)
          refine (match_std q _ 1 1 (w.heap.size + 1) [a] (by omega) (by intro x hx; simp at hx; subst hx; (first | omega | (simp; omega))) _ hl1 (by simp) rfl (by omega) (Hm.out.below hB1 h0) (by simp) _ Hone.out).mono ?_
          rintro e w1 ⟨rfl, hb1⟩
          have z1 : w.heap.size + 1 ≤ w1.heap.size := by have := hb1.size; simpa using this
          have HB1 := Lib.hid (hB1.trans (hb1.mono (by rw [World.size_alloc]; omega)))
          clear hl1 hB1 hb1
          go_wp2_with fail
          refine (awake_any _ (Hm.out.below HB1.out h0) (by omega)).mono ?_
          rintro e w2 ⟨rfl, hb2⟩
          have z2 : w1.heap.size ≤ w2.heap.size := hb2.size
          have HB2 := Lib.hid (HB1.out.trans (hb2.mono (by omega)))
          clear hb2
          go_wp2_with fail
          refine (fold_any q (by omega) _).mono ?_
          rintro e w3 ⟨rfl, hb3⟩
          have z3 : w2.heap.size ≤ w3.heap.size := hb3.size
          have HB3 := Lib.hid (HB2.out.trans (hb3.mono (by omega)))
          clear hb3
          go_wp2_with fail
          refine (fold_any a (by omega) _).mono ?_
          rintro e w4 ⟨rfl, hb4⟩
          have z4 : w3.heap.size ≤ w4.heap.size := hb4.size
          have HB4 := Lib.hid (HB3.out.trans (hb4.mono (by omega)))
          clear hb4
          go_wp2_with fail
          have hl5 := rd_lit w4 ([foldS a].map Value.string) 9
          have hB5 := HB4.out.alloc (by omega) (.cells #[.string (foldS a)] 9)
          refine (match_std (foldS q) _ 1 1 (w4.heap.size + 1) [foldS a] (by omega) (by intro x hx; simp at hx; subst hx; (first | omega | (simp; omega))) _ hl5 (by simp) rfl (by omega) (Hm.out.below hB5 h0) (by simp) _ Hf2.out).mono ?_
          rintro e w5 ⟨rfl, hb5⟩
          have z5 : w4.heap.size + 1 ≤ w5.heap.size := by have := hb5.size; simpa using this
          have HB5 := Lib.hid (hB5.trans (hb5.mono (by rw [World.size_alloc]; omega)))
          clear hl5 hB5 hb5
          go_wp2_with fail
          refine (match_std _ none 0 0 0 [] (by decide) (by intro x hx; cases hx) _ Rd.nil (Nat.zero_le _) rfl (by omega) (Hm.out.below HB5.out h0) (by omega) _ Hnil.out).mono ?_
          rintro e w6 ⟨rfl, hb6⟩
          have z6 : w5.heap.size ≤ w6.heap.size := hb6.size
          have HB6 := Lib.hid (HB5.out.trans (hb6.mono (by omega)))
          clear hb6
          go_wp2_with fail
          have hl7 := rd_lit w6 ([a].map Value.string) 9
          have hB7 := HB6.out.alloc (by omega) (.cells #[.string a] 9)
          refine (match_std q _ 1 1 (w6.heap.size + 1) [a] (by omega) (by intro x hx; simp at hx; subst hx; (first | omega | (simp; omega))) _ hl7 (by simp) rfl (by omega) (Hm.out.below hB7 h0) (by simp) _ Hone.out).mono ?_
          rintro e w7 ⟨rfl, hb7⟩
          have z7 : w6.heap.size + 1 ≤ w7.heap.size := by have := hb7.size; simpa using this
          have HB7 := Lib.hid (hB7.trans (hb7.mono (by rw [World.size_alloc]; omega)))
          clear hl7 hB7 hb7
          go_wp2_with fail
          go_ret
          exact ⟨rfl, HB7.out⟩
end Go.Proofs.Ytebfnglhbfkkdaa
