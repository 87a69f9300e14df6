import Derived.Test.YtgijjmcjobjoeaaA6
namespace Go.Proofs.Ytgijjmcjobjoeaa
open Go.RowKit

def sA : ByteArray := ⟨#[97]⟩
def sB : ByteArray := ⟨#[98]⟩
def sC : ByteArray := ⟨#[99]⟩
def sD : ByteArray := ⟨#[100]⟩
def sZ : ByteArray := ⟨#[122]⟩

theorem aw1 : cutF [⟨#[97]⟩, ⟨#[98]⟩, ⟨#[99]⟩, ⟨#[100]⟩] (-2) 0 (-1) ⟨#[]⟩ = ([⟨#[99]⟩, ⟨#[100]⟩], 2, 0) := by decide +kernel
theorem aw2 : cutF [⟨#[97]⟩, ⟨#[98]⟩, ⟨#[99]⟩, ⟨#[100]⟩] 0 (-1) 2 ⟨#[99]⟩ = ([⟨#[98]⟩, ⟨#[99]⟩], 1, 0) := by decide +kernel
theorem aw3 : cutF [⟨#[97]⟩, ⟨#[98]⟩, ⟨#[99]⟩, ⟨#[100]⟩] 0 0 0 ⟨#[122]⟩ = ([], 0, 220) := by decide +kernel

set_option maxHeartbeats 1000000 in
theorem awake_any (w : World) : Calls Try.prog 16 #[] w fun e w' => e = .returned (.bool true) ∧ Below w.heap.size w w' := by
  have hl := rd_lit w ([⟨#[97]⟩, ⟨#[98]⟩, ⟨#[99]⟩, ⟨#[100]⟩].map Value.string) 9
  have hB := (Below.refl w.heap.size w).alloc (Nat.le_refl _) (.cells #[.string ⟨#[97]⟩, .string ⟨#[98]⟩, .string ⟨#[99]⟩, .string ⟨#[100]⟩] 9)
  have Hl := Lib.hid hl
  have HB := Lib.hid hB
  clear hl hB
  go_enter Try.func16, Try.ntmps16
  go_wp2_with fail
  refine (cut_any _ 4 4 (w.heap.size + 1) [⟨#[97]⟩, ⟨#[98]⟩, ⟨#[99]⟩, ⟨#[100]⟩] _ _ _ _ _ Hl.out rfl (by omega) (by omega) (by omega) (by simp) (by simp) (by omega) (by omega) (by omega)).mono ?_
  rw [aw1]
  rintro e w1 ⟨A1, c1, rfl, ho1, hb1⟩
  have z1 : w.heap.size + 1 ≤ w1.heap.size := by have := hb1.size; simpa using this
  have Hl1 := Lib.hid (Hl.out.below (hb1.mono (by simp)))
  have HB1 := Lib.hid (HB.out.trans (hb1.mono (by simp)))
  have Hr1 := Lib.hid (Rd.of_own ho1)
  clear hb1 ho1
  go_wp2_with fail
  refine (cut_any _ 4 4 (w.heap.size + 1) [⟨#[97]⟩, ⟨#[98]⟩, ⟨#[99]⟩, ⟨#[100]⟩] _ _ _ _ _ Hl1.out rfl (by omega) (by omega) (by omega) (by simp) (by omega) (by omega) (by omega) (by omega)).mono ?_
  rw [aw2]
  rintro e w2 ⟨A2, c2, rfl, ho2, hb2⟩
  have z2 : w1.heap.size ≤ w2.heap.size := hb2.size
  have Hl2 := Lib.hid (Hl1.out.below (hb2.mono (by omega)))
  have HB2 := Lib.hid (HB1.out.trans (hb2.mono (by omega)))
  have Hr12 := Lib.hid (Hr1.out.below hb2)
  have Hr2 := Lib.hid (Rd.of_own ho2)
  clear hb2 ho2
  go_wp2_with fail
  refine (cut_any _ 4 4 (w.heap.size + 1) [⟨#[97]⟩, ⟨#[98]⟩, ⟨#[99]⟩, ⟨#[100]⟩] _ _ _ _ _ Hl2.out rfl (by omega) (by omega) (by omega) (by simp) (by omega) (by omega) (by omega) (by omega)).mono ?_
  rw [aw3]
  rintro e w3 ⟨A3, c3, rfl, ho3, hb3⟩
  have z3 : w2.heap.size ≤ w3.heap.size := hb3.size
  have HB3 := Lib.hid (HB2.out.trans (hb3.mono (by omega)))
  have Hr13 := Lib.hid ((Hr12.out.below (hb3.mono (by omega))).mono (B' := w3.heap.size) (by omega))
  have Hr23 := Lib.hid ((Hr2.out.below hb3).mono (B' := w3.heap.size) (by omega))
  clear hb3 ho3
  go_wp2_with fail
  have hl3 := rd_lit w3 ([⟨#[99]⟩, ⟨#[100]⟩].map Value.string) 9
  refine (same_any _ _ 2 2 _ _ (w3.heap.size + 1) [⟨#[99]⟩, ⟨#[100]⟩] [⟨#[99]⟩, ⟨#[100]⟩] _ ((Hr13.out.keep fun p hp => World.cell?_alloc_lt w3 _ p (by omega)).mono (by omega)) hl3 rfl rfl (by omega) (by omega)).mono ?_
  rintro e w4 ⟨rfl, hd4⟩
  have hb4 := hd4.below (B := w3.heap.size + 1)
  have z4 : w3.heap.size + 1 ≤ w4.heap.size := by have := hb4.size; simpa using this
  have HB4 := Lib.hid ((HB3.out.alloc (by omega) (.cells #[.string ⟨#[99]⟩, .string ⟨#[100]⟩] 9)).trans (hb4.mono (by omega)))
  have Hr24 := Lib.hid (((Hr23.out.keep fun p hp => World.cell?_alloc_lt w3 _ p (by omega)).mono (by omega)).below hb4)
  clear hl3 hb4 hd4
  go_wp2_with fail
  have hl4 := rd_lit w4 ([⟨#[98]⟩, ⟨#[99]⟩].map Value.string) 9
  refine (same_any _ _ 2 2 _ _ (w4.heap.size + 1) [⟨#[98]⟩, ⟨#[99]⟩] [⟨#[98]⟩, ⟨#[99]⟩] _ ((Hr24.out.keep fun p hp => World.cell?_alloc_lt w4 _ p (by omega)).mono (by omega)) hl4 rfl rfl (by omega) (by omega)).mono ?_
  rintro e w5 ⟨rfl, hd5⟩
  have HB5 := Lib.hid ((HB4.out.alloc (by omega) (.cells #[.string ⟨#[98]⟩, .string ⟨#[99]⟩] 9)).trans (hd5.below (B := w.heap.size)))
  clear hl4 hd5
  go_wp2_with fail
  go_ret
  exact ⟨rfl, HB5.out⟩
end Go.Proofs.Ytgijjmcjobjoeaa
