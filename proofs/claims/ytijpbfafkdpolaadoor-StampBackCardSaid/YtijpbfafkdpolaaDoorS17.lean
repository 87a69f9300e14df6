import Derived.Test.YtijpbfafkdpolaaDoorS16
namespace Go.Proofs.YtijpbfafkdpolaaDoor
open Go.RowKit Go.Shelf

theorem make_at (n : Int) (v : ByteArray) (hv : IsMk n v) (hn : -9223372036854775808 ≤ n ∧ n ≤ 9223372036854775807) (w : World) : Calls Tryd.prog 16 #[.int .i64 n] w fun e w' => e = .returned (.string v) ∧ Below w.heap.size w w' :=
  (make_any n hn w).mono fun _ _ ⟨_, h1, he, hb⟩ => ⟨by rw [he, isMk_one h1 hv], hb⟩
theorem rmake_at (n : Int) (v : ByteArray) (hv : IsMk n v) (hn : -9223372036854775808 ≤ n ∧ n ≤ 9223372036854775807) (w : World) : Calls Tryd.prog 17 #[.int .i64 n] w fun e w' => e = .returned (.string v) ∧ Below w.heap.size w w' :=
  (rmake_any n hn w).mono fun _ _ ⟨_, h1, he, hb⟩ => ⟨by rw [he, isMk_one h1 hv], hb⟩
theorem is_at (s : ByteArray) (b : Bool) (hb : secOK s = b) (hs : s.size ≤ 140737488355328) (w : World) : Calls Tryd.prog 13 #[.string s] w fun e w' => e = .returned (.bool b) ∧ Below w.heap.size w w' := by
  subst hb; exact is_any s hs w

set_option maxRecDepth 100000 in
set_option maxHeartbeats 2000000 in
theorem awake_any (w : World) : Calls Tryd.prog 12 #[] w fun e w' => e = .returned (.bool true) ∧ Below w.heap.size w w' := by
  have C1 := Lib.hid (secs_at ⟨#[49, 57, 55, 48, 45, 48, 49, 45, 48, 50, 84, 48, 48, 58, 48, 48, 58, 48, 49, 90]⟩ 86401 true (by decide +kernel) (by decide +kernel) (by decide))
  have C2 := Lib.hid (is_at ⟨#[50, 48, 50, 51, 45, 48, 50, 45, 50, 57, 84, 48, 48, 58, 48, 48, 58, 48, 48, 90]⟩ false (by decide +kernel) (by decide))
  have C3 := Lib.hid (is_at ⟨#[50, 48, 50, 52, 45, 48, 49, 45, 48, 49, 84, 48, 48, 58, 48, 48, 58, 48, 48, 46, 53, 48, 90]⟩ false (by decide +kernel) (by decide))
  have C4 := Lib.hid (make_at 951782400 ⟨#[50, 48, 48, 48, 45, 48, 50, 45, 50, 57, 84, 48, 48, 58, 48, 48, 58, 48, 48, 90]⟩ (.inr ⟨by decide, 2000, 2, 29, by decide +kernel, by decide +kernel, by decide +kernel⟩) (by omega))
  have C5 := Lib.hid (comp_at ⟨#[50, 48, 50, 52, 45, 48, 49, 45, 48, 49, 84, 48, 48, 58, 48, 48, 58, 48, 48, 46, 53, 90]⟩ ⟨#[50, 48, 50, 52, 45, 48, 49, 45, 48, 49, 84, 48, 48, 58, 48, 48, 58, 48, 48, 90]⟩ 1 (by decide +kernel) (by decide) (by decide))
  go_enter Tryd.func12, Tryd.ntmps12
  go_wp2_with fail
  refine (C1.out _).mono ?_
  rintro e w1 ⟨rfl, hb1⟩
  have B1 := Lib.hid hb1
  have g1 := hb1.size
  clear hb1
  go_wp2_with fail
  refine (C2.out _).mono ?_
  rintro e w2 ⟨rfl, hb1⟩
  have B2 := Lib.hid (B1.out.trans (hb1.mono g1))
  have g2 := Nat.le_trans g1 hb1.size
  clear hb1
  go_wp2_with fail
  refine (C3.out _).mono ?_
  rintro e w3 ⟨rfl, hb1⟩
  have B3 := Lib.hid (B2.out.trans (hb1.mono g2))
  have g3 := Nat.le_trans g2 hb1.size
  clear hb1
  go_wp2_with fail
  refine (C4.out _).mono ?_
  rintro e w4 ⟨rfl, hb1⟩
  have B4 := Lib.hid (B3.out.trans (hb1.mono g3))
  have g4 := Nat.le_trans g3 hb1.size
  clear hb1
  go_wp2_with fail
  refine (C5.out _).mono ?_
  rintro e w5 ⟨rfl, hb1⟩
  have B5 := Lib.hid (B4.out.trans (hb1.mono g4))
  clear hb1
  go_wp2_with fail
  go_ret
  exact ⟨rfl, B5.out⟩
end Go.Proofs.YtijpbfafkdpolaaDoor
