import Derived.Test.YtgijjmcjobjoeaaA7
namespace Go.Proofs.Ytgijjmcjobjoeaa
open Go.RowKit

theorem cutAt_len (xs : List ByteArray) (F lim : Int) : (cutAt xs F lim).1.length ≤ xs.length := by
  unfold cutAt; simp only [List.length_take, List.length_drop]; omega
theorem cutF_len (xs : List ByteArray) (pos off lim : Int) (anc : ByteArray) : (cutF xs pos off lim anc).1.length ≤ xs.length := by
  unfold cutF
  split
  · exact cutAt_len _ _ _
  · split
    · simp
    · exact cutAt_len _ _ _
theorem cutF_code (xs : List ByteArray) (pos off lim : Int) (anc : ByteArray) : 0 ≤ (cutF xs pos off lim anc).2.2 ∧ (cutF xs pos off lim anc).2.2 ≤ 220 := by
  unfold cutF cutAt
  repeat' split
  all_goals simp

set_option maxHeartbeats 1000000 in
theorem windowCuts_walk (A : Option Addr) (n ca : Nat) (xs : List ByteArray) (pos : Int) (anc : ByteArray) (off lim : Int) (w : World) (hx : Rd w w.heap.size A (xs.map Value.string))
    (hn : xs.length = n) (hcap : n ≤ ca) (hre : ca * 16 ≤ 140737488351232) (h0 : A = none → n = 0)
    (bp : -9223372036854775808 ≤ pos ∧ pos ≤ 9223372036854775807) (bo : -9223372036854775808 ≤ off ∧ off ≤ 9223372036854775807) (bl : -9223372036854775808 ≤ lim ∧ lim ≤ 9223372036854775807) :
    Calls Try.prog 3 #[.slice A n ca, .agg #[.int .i64 pos, .string anc, .int .i64 off, .int .i64 lim]] w fun e w' => e = .returned (.bool true) ∧ Below w.heap.size w w' := by
  have H0 := Lib.hid h0
  have Hn := Lib.hid hn
  have hl := cutF_len xs pos off lim anc
  have hc := cutF_code xs pos off lim anc
  obtain ⟨l, F, c, hr⟩ : ∃ l F c, cutF xs pos off lim anc = (l, F, c) := ⟨_, _, _, rfl⟩
  rw [hr, hn] at hl
  rw [hr] at hc
  simp only at hl hc
  have Hr := Lib.hid hr
  have hB := (Below.refl w.heap.size w).alloc (Nat.le_refl _) (.cells #[.int .i64 pos, .string anc, .int .i64 off, .int .i64 lim] 24)
  have HB := Lib.hid hB
  have Hx := Lib.hid (hx.below hB)
  clear hx hB hr hn h0
  go_enter Try.func3, Try.ntmps3
  go_wp2_with fail
  refine (cut_any A n ca w.heap.size xs pos off lim anc _ Hx.out Hn.out (by omega) hcap hre H0.out (by simp) bp bo bl).mono ?_
  rw [Hr.out]
  rintro e w1 ⟨A1, c1, rfl, ho1, hb1⟩
  have z1 : w.heap.size + 1 ≤ w1.heap.size := by have := hb1.size; simpa using this
  have hbox : w1.cell? ⟨w.heap.size, 0, none⟩ = some (.int .i64 pos) ∧ w1.cell? ⟨w.heap.size, 1, none⟩ = some (.string anc) ∧ w1.cell? ⟨w.heap.size, 2, none⟩ = some (.int .i64 off) ∧ w1.cell? ⟨w.heap.size, 3, none⟩ = some (.int .i64 lim) := by
    refine ⟨?_, ?_, ?_, ?_⟩ <;> rw [hb1.cell (by simp)] <;> simp [World.cell?_alloc_new]
  obtain ⟨g0, g1, g2, g3⟩ := hbox
  have Hx1 := Lib.hid (Hx.out.below (hb1.mono (by simp)))
  have HB1 := Lib.hid (HB.out.trans (hb1.mono (by simp)))
  have Hr1 := Lib.hid (Rd.of_own ho1)
  clear hb1 ho1
  go_wp2_with fail
  refine (rcut_any A n ca w.heap.size xs pos off lim anc _ Hx1.out Hn.out (by omega) (by omega) bp bo bl).mono ?_
  rw [Hr.out]
  rintro e w2 ⟨A2, c2, rfl, ho2, hb2⟩
  have z2 : w1.heap.size ≤ w2.heap.size := hb2.size
  have HB2 := Lib.hid (HB1.out.trans (hb2.mono (by omega)))
  have Hr12 := Lib.hid ((Hr1.out.below hb2).mono (B' := w2.heap.size) (by omega))
  have Hr2 := Lib.hid (Rd.of_own ho2)
  clear hb2 ho2 g0 g1 g2 g3
  go_wp2_with fail
  refine (awake_any _).mono ?_
  rintro e w3 ⟨rfl, hb3⟩
  have z3 : w2.heap.size ≤ w3.heap.size := hb3.size
  have HB3 := Lib.hid (HB2.out.trans (hb3.mono (by omega)))
  have Hr13 := Lib.hid (Hr12.out.below hb3)
  have Hr23 := Lib.hid (Hr2.out.below hb3)
  clear hb3
  go_wp2_with fail
  refine (same_any _ _ _ _ _ _ w2.heap.size l l _ Hr13.out Hr23.out rfl rfl (by omega) (by omega)).mono ?_
  rintro e w4 ⟨rfl, hd4⟩
  have HB4 := Lib.hid (HB3.out.trans (hd4.below (B := w.heap.size)))
  clear hd4
  go_wp2_with fail
  go_ret
  exact ⟨ret_bool (by simp), HB4.out⟩
end Go.Proofs.Ytgijjmcjobjoeaa
