import Derived.Test.YtgijjmcjobjoeaaA8
import Derived.Test.YtgijjmcjobjoeaaMem2
namespace Go.Proofs.Ytgijjmcjobjoeaa
open Go.RowKit

set_option maxHeartbeats 1000000 in
theorem windowKeeps_walk (A : Option Addr) (n ca : Nat) (xs : List ByteArray) (pos : Int) (anc : ByteArray) (off lim : Int) (w : World) (hx : Rd w w.heap.size A (xs.map Value.string))
    (hn : xs.length = n) (hcap : n ≤ ca) (hre : ca * 16 ≤ 140737488351232) (h0 : A = none → n = 0)
    (bp : -9223372036854775808 ≤ pos ∧ pos ≤ 9223372036854775807) (bo : -9223372036854775808 ≤ off ∧ off ≤ 9223372036854775807) (bl : -9223372036854775808 ≤ lim ∧ lim ≤ 9223372036854775807) :
    Calls Try.prog 7 #[.slice A n ca, .agg #[.int .i64 pos, .string anc, .int .i64 off, .int .i64 lim]] w fun e w' => e = .returned (.bool true) ∧ Below w.heap.size w w' := by
  have H0 := Lib.hid h0
  have Hn := Lib.hid hn
  have hl := cutF_len xs pos off lim anc
  obtain ⟨l, F, c, hr⟩ : ∃ l F c, cutF xs pos off lim anc = (l, F, c) := ⟨_, _, _, rfl⟩
  rw [hr, hn] at hl
  simp only at hl
  have Hr := Lib.hid hr
  have hB := (Below.refl w.heap.size w).alloc (Nat.le_refl _) (.cells #[.int .i64 pos, .string anc, .int .i64 off, .int .i64 lim] 24)
  have HB := Lib.hid hB
  have Hx := Lib.hid (hx.below hB)
  clear hx hB hr hn h0
  have hown := World.ownsRow_nil (w.alloc (.cells #[.int .i64 pos, .string anc, .int .i64 off, .int .i64 lim] 24)) (w.heap.size + 1) 9 1
  go_enter Try.func7, Try.ntmps7
  go_wp2_with (at_builtin; refine wpList_app _ rfl _ _ 22 9 rfl (w.heap.size + 1) _ 16 Try.underlying22 info9 rfl _ 0 [] rfl hown w.heap.size _ n _ (xs.map Value.string) rfl Hx.out ?c2 (one_str xs) ?c3 ?c4 ?c5 ?_)
  case c2 => simpa using Hn.out
  case c3 => omega
  case c4 => first | omega | (simp only [maxLen]; omega)
  case c5 => simp
  intro v' w1 hown1 hgrow
  have hb1 := Below.own (Below.refl (w.heap.size + 1) _) hown hgrow (by simp) (Nat.le_refl _)
  clear hown hgrow
  obtain ⟨A1, c1, rfl⟩ := own_form hown1
  have z1 : w.heap.size + 1 ≤ w1.heap.size := by have := hb1.size; simpa using this
  have hbox : w1.cell? ⟨w.heap.size, 0, none⟩ = some (.int .i64 pos) ∧ w1.cell? ⟨w.heap.size, 1, none⟩ = some (.string anc) ∧ w1.cell? ⟨w.heap.size, 2, none⟩ = some (.int .i64 off) ∧ w1.cell? ⟨w.heap.size, 3, none⟩ = some (.int .i64 lim) := by
    refine ⟨?_, ?_, ?_, ?_⟩ <;> rw [hb1.cell (by simp)] <;> simp [World.cell?_alloc_new]
  obtain ⟨g0, g1, g2, g3⟩ := hbox
  have Hx1 := Lib.hid (Hx.out.below (hb1.mono (by omega)))
  have HB1 := Lib.hid (HB.out.trans (hb1.mono (by omega)))
  have Hw1 := Lib.hid (Rd.of_own hown1)
  clear hb1 hown1
  go_wp2_with fail
  refine (cut_any A n ca w.heap.size xs pos off lim anc _ Hx1.out Hn.out (by omega) hcap hre H0.out (by omega) bp bo bl).mono ?_
  rw [Hr.out]
  rintro e w2 ⟨A2, c2, rfl, ho2, hb2⟩
  have z2 : w1.heap.size ≤ w2.heap.size := hb2.size
  have Hx2 := Lib.hid ((Hx1.out.below (hb2.mono (by omega))).mono (B' := w1.heap.size) (by omega))
  have HB2 := Lib.hid (HB1.out.trans (hb2.mono (by omega)))
  have Hw2 := Lib.hid (Hw1.out.below hb2)
  have ho2 := own_base (base' := w1.heap.size) ho2 (Nat.le_refl _)
  generalize hm : l.length = m at *
  have Hm := Lib.hid hm
  clear hb2 g0 g1 g2 g3 hm
  go_wp2_with fail
  go_loopw [9] (fun i wr => ∃ (k : Nat) (ys : List Value), k ≤ m ∧ i = .int .i64 k ∧ wr.ownsRow w1.heap.size 9 1 (.slice A2 m c2) m ys ∧ Below w1.heap.size w2 wr) (fun i _ => m - (intOf i).toNat)
  case atStart => exact ⟨0, _, Nat.zero_le _, rfl, ho2, Below.refl _ _⟩
  case round =>
    obtain ⟨k, ys, hk, rfl, hown, hbw⟩ := hrel
    have HBw := Lib.hid hbw
    clear hbw
    by_cases hlt : k < m
    · have hly := hown.1
      rcases hown.2 with ⟨_, hm0⟩ | ⟨g, cap, cur, hv, hg, _⟩
      · omega
      · injection hv with hA _ hc
        subst hA
        subst hc
        have h1 := hown.cellAt k (by omega)
        rw [List.getElem?_eq_getElem (by omega)] at h1
        have h2 := hown.frozenAt k
        have h3 := (hown.stored k (.string ⟨#[115, 112, 111, 105, 108, 116]⟩)).1
        have h4 := HBw.out.setCell (p := ⟨g, k, none⟩) hg (.string ⟨#[115, 112, 111, 105, 108, 116]⟩)
        clear hown
        go_wp2
        go_roundw
        case rel => exact ⟨k + 1, _, by omega, by go_num, h3, h4⟩
        case measure => simp [intOf]; omega
    · go_wp2_with fail
      refine (awake_any _).mono ?_
      rintro e w3 ⟨rfl, hb3⟩
      have z3 := HBw.out.size
      have HB3 := Lib.hid ((HB2.out.trans (HBw.out.mono (by omega))).trans (hb3.mono (by omega)))
      have Hx3 := Lib.hid ((Hx2.out.below HBw.out).below (hb3.mono (by omega)))
      have Hw3 := Lib.hid ((Hw2.out.below HBw.out).below (hb3.mono (by omega)))
      clear hb3
      go_wp2_with fail
      refine (same_any _ _ _ _ _ _ w1.heap.size xs xs _ Hx3.out Hw3.out Hn.out Hn.out (by omega) (by omega)).mono ?_
      rintro e w4 ⟨rfl, hd4⟩
      have HB4 := Lib.hid (HB3.out.trans (hd4.below (B := w.heap.size)))
      clear hd4
      go_wp2_with fail
      go_ret
      exact ⟨ret_bool (by simp), HB4.out⟩
end Go.Proofs.Ytgijjmcjobjoeaa
