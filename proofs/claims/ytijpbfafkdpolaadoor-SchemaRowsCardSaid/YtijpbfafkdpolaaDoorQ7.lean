import Derived.Test.YtijpbfafkdpolaaDoorQ5
namespace Go.Proofs.YtijpbfafkdpolaaDoor
open Go.RowKit Go.Shelf

set_option maxRecDepth 100000 in
set_option maxHeartbeats 8000000 in
theorem at_Name (of : ByteArray) (hof : of.toList = [78, 97, 109, 101]) (W : World) : Calls Tryd.prog 22 #[.string of] W (PropsPost W.heap.size W 4 T_Name) := by
  have e0 : (of.toList == [67, 97, 114, 100]) = false := by rw [hof]; decide
  have e1 : (of.toList == [65, 100, 100, 114, 101, 115, 115]) = false := by rw [hof]; decide
  have e2 : (of.toList == [65, 100, 100, 114, 101, 115, 115, 67, 111, 109, 112, 111, 110, 101, 110, 116]) = false := by rw [hof]; decide
  have e3 : (of.toList == [65, 110, 110, 105, 118, 101, 114, 115, 97, 114, 121]) = false := by rw [hof]; decide
  have e4 : (of.toList == [69, 109, 97, 105, 108, 65, 100, 100, 114, 101, 115, 115]) = false := by rw [hof]; decide
  have e5 : (of.toList == [76, 97, 110, 103, 117, 97, 103, 101, 80, 114, 101, 102]) = false := by rw [hof]; decide
  have e6 : (of.toList == [76, 105, 110, 107]) = false := by rw [hof]; decide
  have e7 : (of.toList == [77, 101, 100, 105, 97]) = false := by rw [hof]; decide
  have e8 : (of.toList == [78, 97, 109, 101]) = true := by rw [hof]; decide
  clear hof
  have B0 := Lib.hid (Below.refl W.heap.size W)
  have g0 := Nat.le_refl W.heap.size
  go_enter Tryd.func22, Tryd.ntmps22
  go_wp2_with fail
  refine (parts_NameComponent _).mono ?_
  rintro e w1 ⟨A1, c1, rfl, ho, hb⟩
  have Ho := Lib.hid ho
  have Hb := Lib.hid hb
  clear ho hb
  go_wp2_with fail
  go_ret
  exact ⟨_, _, rfl, Ho.out, Hb.out⟩
set_option maxRecDepth 100000 in
set_option maxHeartbeats 8000000 in
theorem at_NameComponent (of : ByteArray) (hof : of.toList = [78, 97, 109, 101, 67, 111, 109, 112, 111, 110, 101, 110, 116]) (W : World) : Calls Tryd.prog 22 #[.string of] W (PropsPost W.heap.size W 2 T_NameComponent) := by
  have e0 : (of.toList == [67, 97, 114, 100]) = false := by rw [hof]; decide
  have e1 : (of.toList == [65, 100, 100, 114, 101, 115, 115]) = false := by rw [hof]; decide
  have e2 : (of.toList == [65, 100, 100, 114, 101, 115, 115, 67, 111, 109, 112, 111, 110, 101, 110, 116]) = false := by rw [hof]; decide
  have e3 : (of.toList == [65, 110, 110, 105, 118, 101, 114, 115, 97, 114, 121]) = false := by rw [hof]; decide
  have e4 : (of.toList == [69, 109, 97, 105, 108, 65, 100, 100, 114, 101, 115, 115]) = false := by rw [hof]; decide
  have e5 : (of.toList == [76, 97, 110, 103, 117, 97, 103, 101, 80, 114, 101, 102]) = false := by rw [hof]; decide
  have e6 : (of.toList == [76, 105, 110, 107]) = false := by rw [hof]; decide
  have e7 : (of.toList == [77, 101, 100, 105, 97]) = false := by rw [hof]; decide
  have e8 : (of.toList == [78, 97, 109, 101]) = false := by rw [hof]; decide
  have e9 : (of.toList == [78, 97, 109, 101, 67, 111, 109, 112, 111, 110, 101, 110, 116]) = true := by rw [hof]; decide
  clear hof
  have B0 := Lib.hid (Below.refl W.heap.size W)
  have g0 := Nat.le_refl W.heap.size
  go_enter Tryd.func22, Tryd.ntmps22
  have HP := Lib.hid (part_any W.heap.size 8 [⟨#[99, 114, 101, 100, 101, 110, 116, 105, 97, 108]⟩, ⟨#[103, 101, 110, 101, 114, 97, 116, 105, 111, 110]⟩, ⟨#[103, 105, 118, 101, 110]⟩, ⟨#[103, 105, 118, 101, 110, 50]⟩, ⟨#[115, 101, 112, 97, 114, 97, 116, 111, 114]⟩, ⟨#[115, 117, 114, 110, 97, 109, 101]⟩, ⟨#[115, 117, 114, 110, 97, 109, 101, 50]⟩, ⟨#[116, 105, 116, 108, 101]⟩] ⟨#[99, 114, 101, 100, 101, 110, 116, 105, 97, 108, 32, 103, 101, 110, 101, 114, 97, 116, 105, 111, 110, 32, 103, 105, 118, 101, 110, 32, 103, 105, 118, 101, 110, 50, 32, 115, 101, 112, 97, 114, 97, 116, 111, 114, 32, 115, 117, 114, 110, 97, 109, 101, 32, 115, 117, 114, 110, 97, 109, 101, 50, 32, 116, 105, 116, 108, 101]⟩ (by decide +kernel) (W.alloc (.cells #[.string ⟨#[99, 114, 101, 100, 101, 110, 116, 105, 97, 108]⟩, .string ⟨#[103, 101, 110, 101, 114, 97, 116, 105, 111, 110]⟩, .string ⟨#[103, 105, 118, 101, 110]⟩, .string ⟨#[103, 105, 118, 101, 110, 50]⟩, .string ⟨#[115, 101, 112, 97, 114, 97, 116, 111, 114]⟩, .string ⟨#[115, 117, 114, 110, 97, 109, 101]⟩, .string ⟨#[115, 117, 114, 110, 97, 109, 101, 50]⟩, .string ⟨#[116, 105, 116, 108, 101]⟩] 9)) rfl (lit_cells W [⟨#[99, 114, 101, 100, 101, 110, 116, 105, 97, 108]⟩, ⟨#[103, 101, 110, 101, 114, 97, 116, 105, 111, 110]⟩, ⟨#[103, 105, 118, 101, 110]⟩, ⟨#[103, 105, 118, 101, 110, 50]⟩, ⟨#[115, 101, 112, 97, 114, 97, 116, 111, 114]⟩, ⟨#[115, 117, 114, 110, 97, 109, 101]⟩, ⟨#[115, 117, 114, 110, 97, 109, 101, 50]⟩, ⟨#[116, 105, 116, 108, 101]⟩] 9) (by simp) (by decide) (by decide))
  have HB := Lib.hid ((Below.refl W.heap.size W).alloc (Nat.le_refl _) (.cells #[.string ⟨#[99, 114, 101, 100, 101, 110, 116, 105, 97, 108]⟩, .string ⟨#[103, 101, 110, 101, 114, 97, 116, 105, 111, 110]⟩, .string ⟨#[103, 105, 118, 101, 110]⟩, .string ⟨#[103, 105, 118, 101, 110, 50]⟩, .string ⟨#[115, 101, 112, 97, 114, 97, 116, 111, 114]⟩, .string ⟨#[115, 117, 114, 110, 97, 109, 101]⟩, .string ⟨#[115, 117, 114, 110, 97, 109, 101, 50]⟩, .string ⟨#[116, 105, 116, 108, 101]⟩] 9))
  go_wp2_with fail
  refine HP.out.mono ?_
  rintro e w1 ⟨A1, c1, rfl, ho, hb⟩
  have Ho := Lib.hid (own_base ho (show W.heap.size ≤ _ by simp))
  have Hb := Lib.hid (HB.out.trans (hb.mono (show W.heap.size ≤ _ by simp)))
  clear ho hb
  go_wp2_with fail
  go_ret
  exact ⟨_, _, rfl, Ho.out, Hb.out⟩
set_option maxRecDepth 100000 in
set_option maxHeartbeats 8000000 in
theorem at_Nickname (of : ByteArray) (hof : of.toList = [78, 105, 99, 107, 110, 97, 109, 101]) (W : World) : Calls Tryd.prog 22 #[.string of] W (PropsPost W.heap.size W 3 T_Nickname) := by
  have e0 : (of.toList == [67, 97, 114, 100]) = false := by rw [hof]; decide
  have e1 : (of.toList == [65, 100, 100, 114, 101, 115, 115]) = false := by rw [hof]; decide
  have e2 : (of.toList == [65, 100, 100, 114, 101, 115, 115, 67, 111, 109, 112, 111, 110, 101, 110, 116]) = false := by rw [hof]; decide
  have e3 : (of.toList == [65, 110, 110, 105, 118, 101, 114, 115, 97, 114, 121]) = false := by rw [hof]; decide
  have e4 : (of.toList == [69, 109, 97, 105, 108, 65, 100, 100, 114, 101, 115, 115]) = false := by rw [hof]; decide
  have e5 : (of.toList == [76, 97, 110, 103, 117, 97, 103, 101, 80, 114, 101, 102]) = false := by rw [hof]; decide
  have e6 : (of.toList == [76, 105, 110, 107]) = false := by rw [hof]; decide
  have e7 : (of.toList == [77, 101, 100, 105, 97]) = false := by rw [hof]; decide
  have e8 : (of.toList == [78, 97, 109, 101]) = false := by rw [hof]; decide
  have e9 : (of.toList == [78, 97, 109, 101, 67, 111, 109, 112, 111, 110, 101, 110, 116]) = false := by rw [hof]; decide
  have e10 : (of.toList == [78, 105, 99, 107, 110, 97, 109, 101]) = true := by rw [hof]; decide
  clear hof
  have B0 := Lib.hid (Below.refl W.heap.size W)
  have g0 := Nat.le_refl W.heap.size
  go_enter Tryd.func22, Tryd.ntmps22
  go_wp2_with fail
  refine (p_none ⟨#[110, 97, 109, 101]⟩ 1 _).mono ?_
  rintro e w1 ⟨rfl, hb1⟩
  have B1 := Lib.hid (B0.out.trans (hb1.mono g0))
  have g1 := Nat.le_trans g0 hb1.size
  clear hb1 B0 g0
  go_wp2_with fail
  refine (must_any ⟨#[110, 97, 109, 101]⟩ ⟨#[]⟩ ⟨#[]⟩ 1 false _).mono ?_
  rintro e w2 ⟨rfl, hb1⟩
  have B2 := Lib.hid (B1.out.trans (hb1.mono g1))
  have g2 := Nat.le_trans g1 hb1.size
  clear hb1 B1 g1
  have ho : (w2.alloc (.cells #[.string ⟨#[110, 97, 109, 101]⟩, .int .i64 1, .string ⟨#[]⟩, .bool true, .string ⟨#[]⟩] 41)).ownsRow w2.heap.size 41 5 (.slice (some ⟨w2.heap.size, 0, none⟩) 1 1) 1 (cellsP ([(.mk #[110, 97, 109, 101], 1, .mk #[], true, .mk #[])] : List Prp)) := World.ownsRow_lit w2 #[.string ⟨#[110, 97, 109, 101]⟩, .int .i64 1, .string ⟨#[]⟩, .bool true, .string ⟨#[]⟩] 1 (Nat.le_refl _) (by decide) rfl
  have HB := Lib.hid (B2.out.alloc g2 (.cells #[.string ⟨#[110, 97, 109, 101]⟩, .int .i64 1, .string ⟨#[]⟩, .bool true, .string ⟨#[]⟩] 41))
  have HU := Lib.hid (used_any w2.heap.size 1 ([(.mk #[110, 97, 109, 101], 1, .mk #[], true, .mk #[])] : List Prp) T_Nickname _ ho rfl (by decide) (by simp) (by decide +kernel) (by decide +kernel))
  clear ho
  go_wp2_with fail
  refine HU.out.mono ?_
  rintro e wz ⟨Az, cz, rfl, hoz, hbz⟩
  have Ho := Lib.hid (own_base hoz g2)
  have Hb := Lib.hid (HB.out.trans (hbz.mono g2))
  clear hoz hbz
  go_wp2_with fail
  go_ret
  exact ⟨_, _, rfl, Ho.out, Hb.out⟩
set_option maxRecDepth 100000 in
set_option maxHeartbeats 8000000 in
theorem at_Note (of : ByteArray) (hof : of.toList = [78, 111, 116, 101]) (W : World) : Calls Tryd.prog 22 #[.string of] W (PropsPost W.heap.size W 2 T_Note) := by
  have e0 : (of.toList == [67, 97, 114, 100]) = false := by rw [hof]; decide
  have e1 : (of.toList == [65, 100, 100, 114, 101, 115, 115]) = false := by rw [hof]; decide
  have e2 : (of.toList == [65, 100, 100, 114, 101, 115, 115, 67, 111, 109, 112, 111, 110, 101, 110, 116]) = false := by rw [hof]; decide
  have e3 : (of.toList == [65, 110, 110, 105, 118, 101, 114, 115, 97, 114, 121]) = false := by rw [hof]; decide
  have e4 : (of.toList == [69, 109, 97, 105, 108, 65, 100, 100, 114, 101, 115, 115]) = false := by rw [hof]; decide
  have e5 : (of.toList == [76, 97, 110, 103, 117, 97, 103, 101, 80, 114, 101, 102]) = false := by rw [hof]; decide
  have e6 : (of.toList == [76, 105, 110, 107]) = false := by rw [hof]; decide
  have e7 : (of.toList == [77, 101, 100, 105, 97]) = false := by rw [hof]; decide
  have e8 : (of.toList == [78, 97, 109, 101]) = false := by rw [hof]; decide
  have e9 : (of.toList == [78, 97, 109, 101, 67, 111, 109, 112, 111, 110, 101, 110, 116]) = false := by rw [hof]; decide
  have e10 : (of.toList == [78, 105, 99, 107, 110, 97, 109, 101]) = false := by rw [hof]; decide
  have e11 : (of.toList == [78, 111, 116, 101]) = true := by rw [hof]; decide
  clear hof
  have B0 := Lib.hid (Below.refl W.heap.size W)
  have g0 := Nat.le_refl W.heap.size
  go_enter Tryd.func22, Tryd.ntmps22
  go_wp2_with fail
  refine (p_none ⟨#[99, 114, 101, 97, 116, 101, 100]⟩ 7 _).mono ?_
  rintro e w1 ⟨rfl, hb1⟩
  have B1 := Lib.hid (B0.out.trans (hb1.mono g0))
  have g1 := Nat.le_trans g0 hb1.size
  clear hb1 B0 g0
  go_wp2_with fail
  refine (p_none ⟨#[110, 111, 116, 101]⟩ 1 _).mono ?_
  rintro e w2 ⟨rfl, hb1⟩
  have B2 := Lib.hid (B1.out.trans (hb1.mono g1))
  have g2 := Nat.le_trans g1 hb1.size
  clear hb1 B1 g1
  go_wp2_with fail
  refine (must_any ⟨#[110, 111, 116, 101]⟩ ⟨#[]⟩ ⟨#[]⟩ 1 false _).mono ?_
  rintro e w3 ⟨rfl, hb1⟩
  have B3 := Lib.hid (B2.out.trans (hb1.mono g2))
  have g3 := Nat.le_trans g2 hb1.size
  clear hb1 B2 g2
  have ho : (w3.alloc (.cells #[.string ⟨#[99, 114, 101, 97, 116, 101, 100]⟩, .int .i64 7, .string ⟨#[]⟩, .bool false, .string ⟨#[]⟩, .string ⟨#[110, 111, 116, 101]⟩, .int .i64 1, .string ⟨#[]⟩, .bool true, .string ⟨#[]⟩] 41)).ownsRow W.heap.size 41 5 (.slice (some ⟨w3.heap.size, 0, none⟩) 2 2) 2 (cellsP ([(.mk #[99, 114, 101, 97, 116, 101, 100], 7, .mk #[], false, .mk #[]), (.mk #[110, 111, 116, 101], 1, .mk #[], true, .mk #[])] : List Prp)) := World.ownsRow_lit w3 #[.string ⟨#[99, 114, 101, 97, 116, 101, 100]⟩, .int .i64 7, .string ⟨#[]⟩, .bool false, .string ⟨#[]⟩, .string ⟨#[110, 111, 116, 101]⟩, .int .i64 1, .string ⟨#[]⟩, .bool true, .string ⟨#[]⟩] 2 g3 (by decide) rfl
  have Ho := Lib.hid ho
  clear ho
  have HB := Lib.hid (B3.out.alloc g3 (.cells #[.string ⟨#[99, 114, 101, 97, 116, 101, 100]⟩, .int .i64 7, .string ⟨#[]⟩, .bool false, .string ⟨#[]⟩, .string ⟨#[110, 111, 116, 101]⟩, .int .i64 1, .string ⟨#[]⟩, .bool true, .string ⟨#[]⟩] 41))
  go_wp2_with fail
  go_ret
  exact ⟨_, _, rfl, Ho.out, HB.out⟩
set_option maxRecDepth 100000 in
set_option maxHeartbeats 8000000 in
theorem at_OnlineService (of : ByteArray) (hof : of.toList = [79, 110, 108, 105, 110, 101, 83, 101, 114, 118, 105, 99, 101]) (W : World) : Calls Tryd.prog 22 #[.string of] W (PropsPost W.heap.size W 6 T_OnlineService) := by
  have e0 : (of.toList == [67, 97, 114, 100]) = false := by rw [hof]; decide
  have e1 : (of.toList == [65, 100, 100, 114, 101, 115, 115]) = false := by rw [hof]; decide
  have e2 : (of.toList == [65, 100, 100, 114, 101, 115, 115, 67, 111, 109, 112, 111, 110, 101, 110, 116]) = false := by rw [hof]; decide
  have e3 : (of.toList == [65, 110, 110, 105, 118, 101, 114, 115, 97, 114, 121]) = false := by rw [hof]; decide
  have e4 : (of.toList == [69, 109, 97, 105, 108, 65, 100, 100, 114, 101, 115, 115]) = false := by rw [hof]; decide
  have e5 : (of.toList == [76, 97, 110, 103, 117, 97, 103, 101, 80, 114, 101, 102]) = false := by rw [hof]; decide
  have e6 : (of.toList == [76, 105, 110, 107]) = false := by rw [hof]; decide
  have e7 : (of.toList == [77, 101, 100, 105, 97]) = false := by rw [hof]; decide
  have e8 : (of.toList == [78, 97, 109, 101]) = false := by rw [hof]; decide
  have e9 : (of.toList == [78, 97, 109, 101, 67, 111, 109, 112, 111, 110, 101, 110, 116]) = false := by rw [hof]; decide
  have e10 : (of.toList == [78, 105, 99, 107, 110, 97, 109, 101]) = false := by rw [hof]; decide
  have e11 : (of.toList == [78, 111, 116, 101]) = false := by rw [hof]; decide
  have e12 : (of.toList == [79, 110, 108, 105, 110, 101, 83, 101, 114, 118, 105, 99, 101]) = true := by rw [hof]; decide
  clear hof
  have B0 := Lib.hid (Below.refl W.heap.size W)
  have g0 := Nat.le_refl W.heap.size
  go_enter Tryd.func22, Tryd.ntmps22
  go_wp2_with fail
  refine (p_none ⟨#[108, 97, 98, 101, 108]⟩ 1 _).mono ?_
  rintro e w1 ⟨rfl, hb1⟩
  have B1 := Lib.hid (B0.out.trans (hb1.mono g0))
  have g1 := Nat.le_trans g0 hb1.size
  clear hb1 B0 g0
  go_wp2_with fail
  refine (p_none ⟨#[115, 101, 114, 118, 105, 99, 101]⟩ 1 _).mono ?_
  rintro e w2 ⟨rfl, hb1⟩
  have B2 := Lib.hid (B1.out.trans (hb1.mono g1))
  have g2 := Nat.le_trans g1 hb1.size
  clear hb1 B1 g1
  go_wp2_with fail
  refine (p_none ⟨#[117, 114, 105]⟩ 8 _).mono ?_
  rintro e w3 ⟨rfl, hb1⟩
  have B3 := Lib.hid (B2.out.trans (hb1.mono g2))
  have g3 := Nat.le_trans g2 hb1.size
  clear hb1 B2 g2
  go_wp2_with fail
  refine (p_none ⟨#[117, 115, 101, 114]⟩ 1 _).mono ?_
  rintro e w4 ⟨rfl, hb1⟩
  have B4 := Lib.hid (B3.out.trans (hb1.mono g3))
  have g4 := Nat.le_trans g3 hb1.size
  clear hb1 B3 g3
  have ho : (w4.alloc (.cells #[.string ⟨#[108, 97, 98, 101, 108]⟩, .int .i64 1, .string ⟨#[]⟩, .bool false, .string ⟨#[]⟩, .string ⟨#[115, 101, 114, 118, 105, 99, 101]⟩, .int .i64 1, .string ⟨#[]⟩, .bool false, .string ⟨#[]⟩, .string ⟨#[117, 114, 105]⟩, .int .i64 8, .string ⟨#[]⟩, .bool false, .string ⟨#[]⟩, .string ⟨#[117, 115, 101, 114]⟩, .int .i64 1, .string ⟨#[]⟩, .bool false, .string ⟨#[]⟩] 41)).ownsRow w4.heap.size 41 5 (.slice (some ⟨w4.heap.size, 0, none⟩) 4 4) 4 (cellsP ([(.mk #[108, 97, 98, 101, 108], 1, .mk #[], false, .mk #[]), (.mk #[115, 101, 114, 118, 105, 99, 101], 1, .mk #[], false, .mk #[]), (.mk #[117, 114, 105], 8, .mk #[], false, .mk #[]), (.mk #[117, 115, 101, 114], 1, .mk #[], false, .mk #[])] : List Prp)) := World.ownsRow_lit w4 #[.string ⟨#[108, 97, 98, 101, 108]⟩, .int .i64 1, .string ⟨#[]⟩, .bool false, .string ⟨#[]⟩, .string ⟨#[115, 101, 114, 118, 105, 99, 101]⟩, .int .i64 1, .string ⟨#[]⟩, .bool false, .string ⟨#[]⟩, .string ⟨#[117, 114, 105]⟩, .int .i64 8, .string ⟨#[]⟩, .bool false, .string ⟨#[]⟩, .string ⟨#[117, 115, 101, 114]⟩, .int .i64 1, .string ⟨#[]⟩, .bool false, .string ⟨#[]⟩] 4 (Nat.le_refl _) (by decide) rfl
  have HB := Lib.hid (B4.out.alloc g4 (.cells #[.string ⟨#[108, 97, 98, 101, 108]⟩, .int .i64 1, .string ⟨#[]⟩, .bool false, .string ⟨#[]⟩, .string ⟨#[115, 101, 114, 118, 105, 99, 101]⟩, .int .i64 1, .string ⟨#[]⟩, .bool false, .string ⟨#[]⟩, .string ⟨#[117, 114, 105]⟩, .int .i64 8, .string ⟨#[]⟩, .bool false, .string ⟨#[]⟩, .string ⟨#[117, 115, 101, 114]⟩, .int .i64 1, .string ⟨#[]⟩, .bool false, .string ⟨#[]⟩] 41))
  have HU := Lib.hid (used_any w4.heap.size 4 ([(.mk #[108, 97, 98, 101, 108], 1, .mk #[], false, .mk #[]), (.mk #[115, 101, 114, 118, 105, 99, 101], 1, .mk #[], false, .mk #[]), (.mk #[117, 114, 105], 8, .mk #[], false, .mk #[]), (.mk #[117, 115, 101, 114], 1, .mk #[], false, .mk #[])] : List Prp) T_OnlineService _ ho rfl (by decide) (by simp) (by decide +kernel) (by decide +kernel))
  clear ho
  go_wp2_with fail
  refine HU.out.mono ?_
  rintro e wz ⟨Az, cz, rfl, hoz, hbz⟩
  have Ho := Lib.hid (own_base hoz g4)
  have Hb := Lib.hid (HB.out.trans (hbz.mono g4))
  clear hoz hbz
  go_wp2_with fail
  go_ret
  exact ⟨_, _, rfl, Ho.out, Hb.out⟩
set_option maxRecDepth 100000 in
set_option maxHeartbeats 8000000 in
theorem at_OrgUnit (of : ByteArray) (hof : of.toList = [79, 114, 103, 85, 110, 105, 116]) (W : World) : Calls Tryd.prog 22 #[.string of] W (PropsPost W.heap.size W 2 T_OrgUnit) := by
  have e0 : (of.toList == [67, 97, 114, 100]) = false := by rw [hof]; decide
  have e1 : (of.toList == [65, 100, 100, 114, 101, 115, 115]) = false := by rw [hof]; decide
  have e2 : (of.toList == [65, 100, 100, 114, 101, 115, 115, 67, 111, 109, 112, 111, 110, 101, 110, 116]) = false := by rw [hof]; decide
  have e3 : (of.toList == [65, 110, 110, 105, 118, 101, 114, 115, 97, 114, 121]) = false := by rw [hof]; decide
  have e4 : (of.toList == [69, 109, 97, 105, 108, 65, 100, 100, 114, 101, 115, 115]) = false := by rw [hof]; decide
  have e5 : (of.toList == [76, 97, 110, 103, 117, 97, 103, 101, 80, 114, 101, 102]) = false := by rw [hof]; decide
  have e6 : (of.toList == [76, 105, 110, 107]) = false := by rw [hof]; decide
  have e7 : (of.toList == [77, 101, 100, 105, 97]) = false := by rw [hof]; decide
  have e8 : (of.toList == [78, 97, 109, 101]) = false := by rw [hof]; decide
  have e9 : (of.toList == [78, 97, 109, 101, 67, 111, 109, 112, 111, 110, 101, 110, 116]) = false := by rw [hof]; decide
  have e10 : (of.toList == [78, 105, 99, 107, 110, 97, 109, 101]) = false := by rw [hof]; decide
  have e11 : (of.toList == [78, 111, 116, 101]) = false := by rw [hof]; decide
  have e12 : (of.toList == [79, 110, 108, 105, 110, 101, 83, 101, 114, 118, 105, 99, 101]) = false := by rw [hof]; decide
  have e13 : (of.toList == [79, 114, 103, 85, 110, 105, 116]) = true := by rw [hof]; decide
  clear hof
  have B0 := Lib.hid (Below.refl W.heap.size W)
  have g0 := Nat.le_refl W.heap.size
  go_enter Tryd.func22, Tryd.ntmps22
  go_wp2_with fail
  refine (p_none ⟨#[110, 97, 109, 101]⟩ 1 _).mono ?_
  rintro e w1 ⟨rfl, hb1⟩
  have B1 := Lib.hid (B0.out.trans (hb1.mono g0))
  have g1 := Nat.le_trans g0 hb1.size
  clear hb1 B0 g0
  go_wp2_with fail
  refine (must_any ⟨#[110, 97, 109, 101]⟩ ⟨#[]⟩ ⟨#[]⟩ 1 false _).mono ?_
  rintro e w2 ⟨rfl, hb1⟩
  have B2 := Lib.hid (B1.out.trans (hb1.mono g1))
  have g2 := Nat.le_trans g1 hb1.size
  clear hb1 B1 g1
  go_wp2_with fail
  refine (p_none ⟨#[115, 111, 114, 116, 65, 115]⟩ 1 _).mono ?_
  rintro e w3 ⟨rfl, hb1⟩
  have B3 := Lib.hid (B2.out.trans (hb1.mono g2))
  have g3 := Nat.le_trans g2 hb1.size
  clear hb1 B2 g2
  have ho : (w3.alloc (.cells #[.string ⟨#[110, 97, 109, 101]⟩, .int .i64 1, .string ⟨#[]⟩, .bool true, .string ⟨#[]⟩, .string ⟨#[115, 111, 114, 116, 65, 115]⟩, .int .i64 1, .string ⟨#[]⟩, .bool false, .string ⟨#[]⟩] 41)).ownsRow W.heap.size 41 5 (.slice (some ⟨w3.heap.size, 0, none⟩) 2 2) 2 (cellsP ([(.mk #[110, 97, 109, 101], 1, .mk #[], true, .mk #[]), (.mk #[115, 111, 114, 116, 65, 115], 1, .mk #[], false, .mk #[])] : List Prp)) := World.ownsRow_lit w3 #[.string ⟨#[110, 97, 109, 101]⟩, .int .i64 1, .string ⟨#[]⟩, .bool true, .string ⟨#[]⟩, .string ⟨#[115, 111, 114, 116, 65, 115]⟩, .int .i64 1, .string ⟨#[]⟩, .bool false, .string ⟨#[]⟩] 2 g3 (by decide) rfl
  have Ho := Lib.hid ho
  clear ho
  have HB := Lib.hid (B3.out.alloc g3 (.cells #[.string ⟨#[110, 97, 109, 101]⟩, .int .i64 1, .string ⟨#[]⟩, .bool true, .string ⟨#[]⟩, .string ⟨#[115, 111, 114, 116, 65, 115]⟩, .int .i64 1, .string ⟨#[]⟩, .bool false, .string ⟨#[]⟩] 41))
  go_wp2_with fail
  go_ret
  exact ⟨_, _, rfl, Ho.out, HB.out⟩
set_option maxRecDepth 100000 in
set_option maxHeartbeats 8000000 in
theorem at_Organization (of : ByteArray) (hof : of.toList = [79, 114, 103, 97, 110, 105, 122, 97, 116, 105, 111, 110]) (W : World) : Calls Tryd.prog 44 #[.string of] W (PropsPost W.heap.size W 4 T_Organization) := by
  have e0 : (of.toList == [79, 114, 103, 97, 110, 105, 122, 97, 116, 105, 111, 110]) = true := by rw [hof]; decide
  clear hof
  have B0 := Lib.hid (Below.refl W.heap.size W)
  have g0 := Nat.le_refl W.heap.size
  go_enter Tryd.func44, Tryd.ntmps44
  go_wp2_with fail
  refine (pw_22 _).mono ?_
  rintro e w1 ⟨rfl, hb1⟩
  have B1 := Lib.hid (B0.out.trans (hb1.mono g0))
  have g1 := Nat.le_trans g0 hb1.size
  clear hb1 B0 g0
  go_wp2_with fail
  refine (p_none ⟨#[110, 97, 109, 101]⟩ 1 _).mono ?_
  rintro e w2 ⟨rfl, hb1⟩
  have B2 := Lib.hid (B1.out.trans (hb1.mono g1))
  have g2 := Nat.le_trans g1 hb1.size
  clear hb1 B1 g1
  go_wp2_with fail
  refine (p_none ⟨#[115, 111, 114, 116, 65, 115]⟩ 1 _).mono ?_
  rintro e w3 ⟨rfl, hb1⟩
  have B3 := Lib.hid (B2.out.trans (hb1.mono g2))
  have g3 := Nat.le_trans g2 hb1.size
  clear hb1 B2 g2
  go_wp2_with fail
  refine (pw_23 _).mono ?_
  rintro e w4 ⟨rfl, hb1⟩
  have B4 := Lib.hid (B3.out.trans (hb1.mono g3))
  have g4 := Nat.le_trans g3 hb1.size
  clear hb1 B3 g3
  have ho : (w4.alloc (.cells #[.string ⟨#[99, 111, 110, 116, 101, 120, 116, 115]⟩, .int .i64 17, .string ⟨#[112, 114, 105, 118, 97, 116, 101, 32, 119, 111, 114, 107]⟩, .bool false, .string ⟨#[]⟩, .string ⟨#[110, 97, 109, 101]⟩, .int .i64 1, .string ⟨#[]⟩, .bool false, .string ⟨#[]⟩, .string ⟨#[115, 111, 114, 116, 65, 115]⟩, .int .i64 1, .string ⟨#[]⟩, .bool false, .string ⟨#[]⟩, .string ⟨#[117, 110, 105, 116, 115]⟩, .int .i64 13, .string ⟨#[79, 114, 103, 85, 110, 105, 116]⟩, .bool false, .string ⟨#[]⟩] 41)).ownsRow W.heap.size 41 5 (.slice (some ⟨w4.heap.size, 0, none⟩) 4 4) 4 (cellsP ([(.mk #[99, 111, 110, 116, 101, 120, 116, 115], 17, .mk #[112, 114, 105, 118, 97, 116, 101, 32, 119, 111, 114, 107], false, .mk #[]), (.mk #[110, 97, 109, 101], 1, .mk #[], false, .mk #[]), (.mk #[115, 111, 114, 116, 65, 115], 1, .mk #[], false, .mk #[]), (.mk #[117, 110, 105, 116, 115], 13, .mk #[79, 114, 103, 85, 110, 105, 116], false, .mk #[])] : List Prp)) := World.ownsRow_lit w4 #[.string ⟨#[99, 111, 110, 116, 101, 120, 116, 115]⟩, .int .i64 17, .string ⟨#[112, 114, 105, 118, 97, 116, 101, 32, 119, 111, 114, 107]⟩, .bool false, .string ⟨#[]⟩, .string ⟨#[110, 97, 109, 101]⟩, .int .i64 1, .string ⟨#[]⟩, .bool false, .string ⟨#[]⟩, .string ⟨#[115, 111, 114, 116, 65, 115]⟩, .int .i64 1, .string ⟨#[]⟩, .bool false, .string ⟨#[]⟩, .string ⟨#[117, 110, 105, 116, 115]⟩, .int .i64 13, .string ⟨#[79, 114, 103, 85, 110, 105, 116]⟩, .bool false, .string ⟨#[]⟩] 4 g4 (by decide) rfl
  have Ho := Lib.hid ho
  clear ho
  have HB := Lib.hid (B4.out.alloc g4 (.cells #[.string ⟨#[99, 111, 110, 116, 101, 120, 116, 115]⟩, .int .i64 17, .string ⟨#[112, 114, 105, 118, 97, 116, 101, 32, 119, 111, 114, 107]⟩, .bool false, .string ⟨#[]⟩, .string ⟨#[110, 97, 109, 101]⟩, .int .i64 1, .string ⟨#[]⟩, .bool false, .string ⟨#[]⟩, .string ⟨#[115, 111, 114, 116, 65, 115]⟩, .int .i64 1, .string ⟨#[]⟩, .bool false, .string ⟨#[]⟩, .string ⟨#[117, 110, 105, 116, 115]⟩, .int .i64 13, .string ⟨#[79, 114, 103, 85, 110, 105, 116]⟩, .bool false, .string ⟨#[]⟩] 41))
  go_wp2_with fail
  go_ret
  exact ⟨_, _, rfl, Ho.out, HB.out⟩
set_option maxRecDepth 100000 in
set_option maxHeartbeats 8000000 in
theorem at_PartialDate (of : ByteArray) (hof : of.toList = [80, 97, 114, 116, 105, 97, 108, 68, 97, 116, 101]) (W : World) : Calls Tryd.prog 44 #[.string of] W (PropsPost W.heap.size W 3 T_PartialDate) := by
  have e0 : (of.toList == [79, 114, 103, 97, 110, 105, 122, 97, 116, 105, 111, 110]) = false := by rw [hof]; decide
  have e1 : (of.toList == [80, 97, 114, 116, 105, 97, 108, 68, 97, 116, 101]) = true := by rw [hof]; decide
  clear hof
  have B0 := Lib.hid (Below.refl W.heap.size W)
  have g0 := Nat.le_refl W.heap.size
  go_enter Tryd.func44, Tryd.ntmps44
  go_wp2_with fail
  refine (p_none ⟨#[100, 97, 121]⟩ 4 _).mono ?_
  rintro e w1 ⟨rfl, hb1⟩
  have B1 := Lib.hid (B0.out.trans (hb1.mono g0))
  have g1 := Nat.le_trans g0 hb1.size
  clear hb1 B0 g0
  go_wp2_with fail
  refine (p_none ⟨#[109, 111, 110, 116, 104]⟩ 4 _).mono ?_
  rintro e w2 ⟨rfl, hb1⟩
  have B2 := Lib.hid (B1.out.trans (hb1.mono g1))
  have g2 := Nat.le_trans g1 hb1.size
  clear hb1 B1 g1
  go_wp2_with fail
  refine (p_none ⟨#[121, 101, 97, 114]⟩ 4 _).mono ?_
  rintro e w3 ⟨rfl, hb1⟩
  have B3 := Lib.hid (B2.out.trans (hb1.mono g2))
  have g3 := Nat.le_trans g2 hb1.size
  clear hb1 B2 g2
  have ho : (w3.alloc (.cells #[.string ⟨#[100, 97, 121]⟩, .int .i64 4, .string ⟨#[]⟩, .bool false, .string ⟨#[]⟩, .string ⟨#[109, 111, 110, 116, 104]⟩, .int .i64 4, .string ⟨#[]⟩, .bool false, .string ⟨#[]⟩, .string ⟨#[121, 101, 97, 114]⟩, .int .i64 4, .string ⟨#[]⟩, .bool false, .string ⟨#[]⟩] 41)).ownsRow W.heap.size 41 5 (.slice (some ⟨w3.heap.size, 0, none⟩) 3 3) 3 (cellsP ([(.mk #[100, 97, 121], 4, .mk #[], false, .mk #[]), (.mk #[109, 111, 110, 116, 104], 4, .mk #[], false, .mk #[]), (.mk #[121, 101, 97, 114], 4, .mk #[], false, .mk #[])] : List Prp)) := World.ownsRow_lit w3 #[.string ⟨#[100, 97, 121]⟩, .int .i64 4, .string ⟨#[]⟩, .bool false, .string ⟨#[]⟩, .string ⟨#[109, 111, 110, 116, 104]⟩, .int .i64 4, .string ⟨#[]⟩, .bool false, .string ⟨#[]⟩, .string ⟨#[121, 101, 97, 114]⟩, .int .i64 4, .string ⟨#[]⟩, .bool false, .string ⟨#[]⟩] 3 g3 (by decide) rfl
  have Ho := Lib.hid ho
  clear ho
  have HB := Lib.hid (B3.out.alloc g3 (.cells #[.string ⟨#[100, 97, 121]⟩, .int .i64 4, .string ⟨#[]⟩, .bool false, .string ⟨#[]⟩, .string ⟨#[109, 111, 110, 116, 104]⟩, .int .i64 4, .string ⟨#[]⟩, .bool false, .string ⟨#[]⟩, .string ⟨#[121, 101, 97, 114]⟩, .int .i64 4, .string ⟨#[]⟩, .bool false, .string ⟨#[]⟩] 41))
  go_wp2_with fail
  go_ret
  exact ⟨_, _, rfl, Ho.out, HB.out⟩
set_option maxRecDepth 100000 in
set_option maxHeartbeats 8000000 in
theorem at_Phone (of : ByteArray) (hof : of.toList = [80, 104, 111, 110, 101]) (W : World) : Calls Tryd.prog 44 #[.string of] W (PropsPost W.heap.size W 5 T_Phone) := by
  have e0 : (of.toList == [79, 114, 103, 97, 110, 105, 122, 97, 116, 105, 111, 110]) = false := by rw [hof]; decide
  have e1 : (of.toList == [80, 97, 114, 116, 105, 97, 108, 68, 97, 116, 101]) = false := by rw [hof]; decide
  have e2 : (of.toList == [80, 104, 111, 110, 101]) = true := by rw [hof]; decide
  clear hof
  have B0 := Lib.hid (Below.refl W.heap.size W)
  have g0 := Nat.le_refl W.heap.size
  go_enter Tryd.func44, Tryd.ntmps44
  go_wp2_with fail
  refine (pw_24 _).mono ?_
  rintro e w1 ⟨rfl, hb1⟩
  have B1 := Lib.hid (B0.out.trans (hb1.mono g0))
  have g1 := Nat.le_trans g0 hb1.size
  clear hb1 B0 g0
  go_wp2_with fail
  refine (p_none ⟨#[108, 97, 98, 101, 108]⟩ 1 _).mono ?_
  rintro e w2 ⟨rfl, hb1⟩
  have B2 := Lib.hid (B1.out.trans (hb1.mono g1))
  have g2 := Nat.le_trans g1 hb1.size
  clear hb1 B1 g1
  go_wp2_with fail
  refine (p_none ⟨#[110, 117, 109, 98, 101, 114]⟩ 1 _).mono ?_
  rintro e w3 ⟨rfl, hb1⟩
  have B3 := Lib.hid (B2.out.trans (hb1.mono g2))
  have g3 := Nat.le_trans g2 hb1.size
  clear hb1 B2 g2
  go_wp2_with fail
  refine (must_any ⟨#[110, 117, 109, 98, 101, 114]⟩ ⟨#[]⟩ ⟨#[]⟩ 1 false _).mono ?_
  rintro e w4 ⟨rfl, hb1⟩
  have B4 := Lib.hid (B3.out.trans (hb1.mono g3))
  have g4 := Nat.le_trans g3 hb1.size
  clear hb1 B3 g3
  have ho : (w4.alloc (.cells #[.string ⟨#[102, 101, 97, 116, 117, 114, 101, 115]⟩, .int .i64 17, .string ⟨#[102, 97, 120, 32, 109, 97, 105, 110, 45, 110, 117, 109, 98, 101, 114, 32, 109, 111, 98, 105, 108, 101, 32, 112, 97, 103, 101, 114, 32, 116, 101, 120, 116, 32, 116, 101, 120, 116, 112, 104, 111, 110, 101, 32, 118, 105, 100, 101, 111, 32, 118, 111, 105, 99, 101]⟩, .bool false, .string ⟨#[]⟩, .string ⟨#[108, 97, 98, 101, 108]⟩, .int .i64 1, .string ⟨#[]⟩, .bool false, .string ⟨#[]⟩, .string ⟨#[110, 117, 109, 98, 101, 114]⟩, .int .i64 1, .string ⟨#[]⟩, .bool true, .string ⟨#[]⟩] 41)).ownsRow w4.heap.size 41 5 (.slice (some ⟨w4.heap.size, 0, none⟩) 3 3) 3 (cellsP ([(.mk #[102, 101, 97, 116, 117, 114, 101, 115], 17, .mk #[102, 97, 120, 32, 109, 97, 105, 110, 45, 110, 117, 109, 98, 101, 114, 32, 109, 111, 98, 105, 108, 101, 32, 112, 97, 103, 101, 114, 32, 116, 101, 120, 116, 32, 116, 101, 120, 116, 112, 104, 111, 110, 101, 32, 118, 105, 100, 101, 111, 32, 118, 111, 105, 99, 101], false, .mk #[]), (.mk #[108, 97, 98, 101, 108], 1, .mk #[], false, .mk #[]), (.mk #[110, 117, 109, 98, 101, 114], 1, .mk #[], true, .mk #[])] : List Prp)) := World.ownsRow_lit w4 #[.string ⟨#[102, 101, 97, 116, 117, 114, 101, 115]⟩, .int .i64 17, .string ⟨#[102, 97, 120, 32, 109, 97, 105, 110, 45, 110, 117, 109, 98, 101, 114, 32, 109, 111, 98, 105, 108, 101, 32, 112, 97, 103, 101, 114, 32, 116, 101, 120, 116, 32, 116, 101, 120, 116, 112, 104, 111, 110, 101, 32, 118, 105, 100, 101, 111, 32, 118, 111, 105, 99, 101]⟩, .bool false, .string ⟨#[]⟩, .string ⟨#[108, 97, 98, 101, 108]⟩, .int .i64 1, .string ⟨#[]⟩, .bool false, .string ⟨#[]⟩, .string ⟨#[110, 117, 109, 98, 101, 114]⟩, .int .i64 1, .string ⟨#[]⟩, .bool true, .string ⟨#[]⟩] 3 (Nat.le_refl _) (by decide) rfl
  have HB := Lib.hid (B4.out.alloc g4 (.cells #[.string ⟨#[102, 101, 97, 116, 117, 114, 101, 115]⟩, .int .i64 17, .string ⟨#[102, 97, 120, 32, 109, 97, 105, 110, 45, 110, 117, 109, 98, 101, 114, 32, 109, 111, 98, 105, 108, 101, 32, 112, 97, 103, 101, 114, 32, 116, 101, 120, 116, 32, 116, 101, 120, 116, 112, 104, 111, 110, 101, 32, 118, 105, 100, 101, 111, 32, 118, 111, 105, 99, 101]⟩, .bool false, .string ⟨#[]⟩, .string ⟨#[108, 97, 98, 101, 108]⟩, .int .i64 1, .string ⟨#[]⟩, .bool false, .string ⟨#[]⟩, .string ⟨#[110, 117, 109, 98, 101, 114]⟩, .int .i64 1, .string ⟨#[]⟩, .bool true, .string ⟨#[]⟩] 41))
  have HU := Lib.hid (used_any w4.heap.size 3 ([(.mk #[102, 101, 97, 116, 117, 114, 101, 115], 17, .mk #[102, 97, 120, 32, 109, 97, 105, 110, 45, 110, 117, 109, 98, 101, 114, 32, 109, 111, 98, 105, 108, 101, 32, 112, 97, 103, 101, 114, 32, 116, 101, 120, 116, 32, 116, 101, 120, 116, 112, 104, 111, 110, 101, 32, 118, 105, 100, 101, 111, 32, 118, 111, 105, 99, 101], false, .mk #[]), (.mk #[108, 97, 98, 101, 108], 1, .mk #[], false, .mk #[]), (.mk #[110, 117, 109, 98, 101, 114], 1, .mk #[], true, .mk #[])] : List Prp) T_Phone _ ho rfl (by decide) (by simp) (by decide +kernel) (by decide +kernel))
  clear ho
  go_wp2_with fail
  refine HU.out.mono ?_
  rintro e wz ⟨Az, cz, rfl, hoz, hbz⟩
  have Ho := Lib.hid (own_base hoz g4)
  have Hb := Lib.hid (HB.out.trans (hbz.mono g4))
  clear hoz hbz
  go_wp2_with fail
  go_ret
  exact ⟨_, _, rfl, Ho.out, Hb.out⟩
set_option maxRecDepth 100000 in
set_option maxHeartbeats 8000000 in
theorem at_Relation (of : ByteArray) (hof : of.toList = [82, 101, 108, 97, 116, 105, 111, 110]) (W : World) : Calls Tryd.prog 44 #[.string of] W (PropsPost W.heap.size W 1 T_Relation) := by
  have e0 : (of.toList == [79, 114, 103, 97, 110, 105, 122, 97, 116, 105, 111, 110]) = false := by rw [hof]; decide
  have e1 : (of.toList == [80, 97, 114, 116, 105, 97, 108, 68, 97, 116, 101]) = false := by rw [hof]; decide
  have e2 : (of.toList == [80, 104, 111, 110, 101]) = false := by rw [hof]; decide
  have e3 : (of.toList == [82, 101, 108, 97, 116, 105, 111, 110]) = true := by rw [hof]; decide
  clear hof
  have B0 := Lib.hid (Below.refl W.heap.size W)
  have g0 := Nat.le_refl W.heap.size
  go_enter Tryd.func44, Tryd.ntmps44
  go_wp2_with fail
  refine (pw_25 _).mono ?_
  rintro e w1 ⟨rfl, hb1⟩
  have B1 := Lib.hid (B0.out.trans (hb1.mono g0))
  have g1 := Nat.le_trans g0 hb1.size
  clear hb1 B0 g0
  have ho : (w1.alloc (.cells #[.string ⟨#[114, 101, 108, 97, 116, 105, 111, 110]⟩, .int .i64 17, .string ⟨#[97, 99, 113, 117, 97, 105, 110, 116, 97, 110, 99, 101, 32, 97, 103, 101, 110, 116, 32, 99, 104, 105, 108, 100, 32, 99, 111, 45, 114, 101, 115, 105, 100, 101, 110, 116, 32, 99, 111, 45, 119, 111, 114, 107, 101, 114, 32, 99, 111, 108, 108, 101, 97, 103, 117, 101, 32, 99, 111, 110, 116, 97, 99, 116, 32, 99, 114, 117, 115, 104, 32, 100, 97, 116, 101, 32, 101, 109, 101, 114, 103, 101, 110, 99, 121, 32, 102, 114, 105, 101, 110, 100, 32, 107, 105, 110, 32, 109, 101, 32, 109, 101, 116, 32, 109, 117, 115, 101, 32, 110, 101, 105, 103, 104, 98, 111, 114, 32, 112, 97, 114, 101, 110, 116, 32, 115, 105, 98, 108, 105, 110, 103, 32, 115, 112, 111, 117, 115, 101, 32, 115, 119, 101, 101, 116, 104, 101, 97, 114, 116]⟩, .bool false, .string ⟨#[]⟩] 41)).ownsRow W.heap.size 41 5 (.slice (some ⟨w1.heap.size, 0, none⟩) 1 1) 1 (cellsP ([(.mk #[114, 101, 108, 97, 116, 105, 111, 110], 17, .mk #[97, 99, 113, 117, 97, 105, 110, 116, 97, 110, 99, 101, 32, 97, 103, 101, 110, 116, 32, 99, 104, 105, 108, 100, 32, 99, 111, 45, 114, 101, 115, 105, 100, 101, 110, 116, 32, 99, 111, 45, 119, 111, 114, 107, 101, 114, 32, 99, 111, 108, 108, 101, 97, 103, 117, 101, 32, 99, 111, 110, 116, 97, 99, 116, 32, 99, 114, 117, 115, 104, 32, 100, 97, 116, 101, 32, 101, 109, 101, 114, 103, 101, 110, 99, 121, 32, 102, 114, 105, 101, 110, 100, 32, 107, 105, 110, 32, 109, 101, 32, 109, 101, 116, 32, 109, 117, 115, 101, 32, 110, 101, 105, 103, 104, 98, 111, 114, 32, 112, 97, 114, 101, 110, 116, 32, 115, 105, 98, 108, 105, 110, 103, 32, 115, 112, 111, 117, 115, 101, 32, 115, 119, 101, 101, 116, 104, 101, 97, 114, 116], false, .mk #[])] : List Prp)) := World.ownsRow_lit w1 #[.string ⟨#[114, 101, 108, 97, 116, 105, 111, 110]⟩, .int .i64 17, .string ⟨#[97, 99, 113, 117, 97, 105, 110, 116, 97, 110, 99, 101, 32, 97, 103, 101, 110, 116, 32, 99, 104, 105, 108, 100, 32, 99, 111, 45, 114, 101, 115, 105, 100, 101, 110, 116, 32, 99, 111, 45, 119, 111, 114, 107, 101, 114, 32, 99, 111, 108, 108, 101, 97, 103, 117, 101, 32, 99, 111, 110, 116, 97, 99, 116, 32, 99, 114, 117, 115, 104, 32, 100, 97, 116, 101, 32, 101, 109, 101, 114, 103, 101, 110, 99, 121, 32, 102, 114, 105, 101, 110, 100, 32, 107, 105, 110, 32, 109, 101, 32, 109, 101, 116, 32, 109, 117, 115, 101, 32, 110, 101, 105, 103, 104, 98, 111, 114, 32, 112, 97, 114, 101, 110, 116, 32, 115, 105, 98, 108, 105, 110, 103, 32, 115, 112, 111, 117, 115, 101, 32, 115, 119, 101, 101, 116, 104, 101, 97, 114, 116]⟩, .bool false, .string ⟨#[]⟩] 1 g1 (by decide) rfl
  have Ho := Lib.hid ho
  clear ho
  have HB := Lib.hid (B1.out.alloc g1 (.cells #[.string ⟨#[114, 101, 108, 97, 116, 105, 111, 110]⟩, .int .i64 17, .string ⟨#[97, 99, 113, 117, 97, 105, 110, 116, 97, 110, 99, 101, 32, 97, 103, 101, 110, 116, 32, 99, 104, 105, 108, 100, 32, 99, 111, 45, 114, 101, 115, 105, 100, 101, 110, 116, 32, 99, 111, 45, 119, 111, 114, 107, 101, 114, 32, 99, 111, 108, 108, 101, 97, 103, 117, 101, 32, 99, 111, 110, 116, 97, 99, 116, 32, 99, 114, 117, 115, 104, 32, 100, 97, 116, 101, 32, 101, 109, 101, 114, 103, 101, 110, 99, 121, 32, 102, 114, 105, 101, 110, 100, 32, 107, 105, 110, 32, 109, 101, 32, 109, 101, 116, 32, 109, 117, 115, 101, 32, 110, 101, 105, 103, 104, 98, 111, 114, 32, 112, 97, 114, 101, 110, 116, 32, 115, 105, 98, 108, 105, 110, 103, 32, 115, 112, 111, 117, 115, 101, 32, 115, 119, 101, 101, 116, 104, 101, 97, 114, 116]⟩, .bool false, .string ⟨#[]⟩] 41))
  go_wp2_with fail
  go_ret
  exact ⟨_, _, rfl, Ho.out, HB.out⟩
set_option maxRecDepth 100000 in
set_option maxHeartbeats 8000000 in
theorem at_Timestamp (of : ByteArray) (hof : of.toList = [84, 105, 109, 101, 115, 116, 97, 109, 112]) (W : World) : Calls Tryd.prog 44 #[.string of] W (PropsPost W.heap.size W 1 T_Timestamp) := by
  have e0 : (of.toList == [79, 114, 103, 97, 110, 105, 122, 97, 116, 105, 111, 110]) = false := by rw [hof]; decide
  have e1 : (of.toList == [80, 97, 114, 116, 105, 97, 108, 68, 97, 116, 101]) = false := by rw [hof]; decide
  have e2 : (of.toList == [80, 104, 111, 110, 101]) = false := by rw [hof]; decide
  have e3 : (of.toList == [82, 101, 108, 97, 116, 105, 111, 110]) = false := by rw [hof]; decide
  have e4 : (of.toList == [84, 105, 109, 101, 115, 116, 97, 109, 112]) = true := by rw [hof]; decide
  clear hof
  have B0 := Lib.hid (Below.refl W.heap.size W)
  have g0 := Nat.le_refl W.heap.size
  go_enter Tryd.func44, Tryd.ntmps44
  go_wp2_with fail
  refine (p_none ⟨#[117, 116, 99]⟩ 7 _).mono ?_
  rintro e w1 ⟨rfl, hb1⟩
  have B1 := Lib.hid (B0.out.trans (hb1.mono g0))
  have g1 := Nat.le_trans g0 hb1.size
  clear hb1 B0 g0
  go_wp2_with fail
  refine (must_any ⟨#[117, 116, 99]⟩ ⟨#[]⟩ ⟨#[]⟩ 7 false _).mono ?_
  rintro e w2 ⟨rfl, hb1⟩
  have B2 := Lib.hid (B1.out.trans (hb1.mono g1))
  have g2 := Nat.le_trans g1 hb1.size
  clear hb1 B1 g1
  have ho : (w2.alloc (.cells #[.string ⟨#[117, 116, 99]⟩, .int .i64 7, .string ⟨#[]⟩, .bool true, .string ⟨#[]⟩] 41)).ownsRow W.heap.size 41 5 (.slice (some ⟨w2.heap.size, 0, none⟩) 1 1) 1 (cellsP ([(.mk #[117, 116, 99], 7, .mk #[], true, .mk #[])] : List Prp)) := World.ownsRow_lit w2 #[.string ⟨#[117, 116, 99]⟩, .int .i64 7, .string ⟨#[]⟩, .bool true, .string ⟨#[]⟩] 1 g2 (by decide) rfl
  have Ho := Lib.hid ho
  clear ho
  have HB := Lib.hid (B2.out.alloc g2 (.cells #[.string ⟨#[117, 116, 99]⟩, .int .i64 7, .string ⟨#[]⟩, .bool true, .string ⟨#[]⟩] 41))
  go_wp2_with fail
  go_ret
  exact ⟨_, _, rfl, Ho.out, HB.out⟩
set_option maxRecDepth 100000 in
set_option maxHeartbeats 8000000 in
theorem at_Title (of : ByteArray) (hof : of.toList = [84, 105, 116, 108, 101]) (W : World) : Calls Tryd.prog 44 #[.string of] W (PropsPost W.heap.size W 3 T_Title) := by
  have e0 : (of.toList == [79, 114, 103, 97, 110, 105, 122, 97, 116, 105, 111, 110]) = false := by rw [hof]; decide
  have e1 : (of.toList == [80, 97, 114, 116, 105, 97, 108, 68, 97, 116, 101]) = false := by rw [hof]; decide
  have e2 : (of.toList == [80, 104, 111, 110, 101]) = false := by rw [hof]; decide
  have e3 : (of.toList == [82, 101, 108, 97, 116, 105, 111, 110]) = false := by rw [hof]; decide
  have e4 : (of.toList == [84, 105, 109, 101, 115, 116, 97, 109, 112]) = false := by rw [hof]; decide
  have e5 : (of.toList == [84, 105, 116, 108, 101]) = true := by rw [hof]; decide
  clear hof
  have B0 := Lib.hid (Below.refl W.heap.size W)
  have g0 := Nat.le_refl W.heap.size
  go_enter Tryd.func44, Tryd.ntmps44
  go_wp2_with fail
  refine (pw_26 _).mono ?_
  rintro e w1 ⟨rfl, hb1⟩
  have B1 := Lib.hid (B0.out.trans (hb1.mono g0))
  have g1 := Nat.le_trans g0 hb1.size
  clear hb1 B0 g0
  go_wp2_with fail
  refine (or_any ⟨#[107, 105, 110, 100]⟩ ⟨#[114, 111, 108, 101, 32, 116, 105, 116, 108, 101]⟩ ⟨#[]⟩ ⟨#[116, 105, 116, 108, 101]⟩ 11 false _).mono ?_
  rintro e w2 ⟨rfl, hb1⟩
  have B2 := Lib.hid (B1.out.trans (hb1.mono g1))
  have g2 := Nat.le_trans g1 hb1.size
  clear hb1 B1 g1
  go_wp2_with fail
  refine (p_none ⟨#[110, 97, 109, 101]⟩ 1 _).mono ?_
  rintro e w3 ⟨rfl, hb1⟩
  have B3 := Lib.hid (B2.out.trans (hb1.mono g2))
  have g3 := Nat.le_trans g2 hb1.size
  clear hb1 B2 g2
  go_wp2_with fail
  refine (must_any ⟨#[110, 97, 109, 101]⟩ ⟨#[]⟩ ⟨#[]⟩ 1 false _).mono ?_
  rintro e w4 ⟨rfl, hb1⟩
  have B4 := Lib.hid (B3.out.trans (hb1.mono g3))
  have g4 := Nat.le_trans g3 hb1.size
  clear hb1 B3 g3
  go_wp2_with fail
  refine (p_none ⟨#[111, 114, 103, 97, 110, 105, 122, 97, 116, 105, 111, 110, 73, 100]⟩ 6 _).mono ?_
  rintro e w5 ⟨rfl, hb1⟩
  have B5 := Lib.hid (B4.out.trans (hb1.mono g4))
  have g5 := Nat.le_trans g4 hb1.size
  clear hb1 B4 g4
  have ho : (w5.alloc (.cells #[.string ⟨#[107, 105, 110, 100]⟩, .int .i64 11, .string ⟨#[114, 111, 108, 101, 32, 116, 105, 116, 108, 101]⟩, .bool false, .string ⟨#[116, 105, 116, 108, 101]⟩, .string ⟨#[110, 97, 109, 101]⟩, .int .i64 1, .string ⟨#[]⟩, .bool true, .string ⟨#[]⟩, .string ⟨#[111, 114, 103, 97, 110, 105, 122, 97, 116, 105, 111, 110, 73, 100]⟩, .int .i64 6, .string ⟨#[]⟩, .bool false, .string ⟨#[]⟩] 41)).ownsRow W.heap.size 41 5 (.slice (some ⟨w5.heap.size, 0, none⟩) 3 3) 3 (cellsP ([(.mk #[107, 105, 110, 100], 11, .mk #[114, 111, 108, 101, 32, 116, 105, 116, 108, 101], false, .mk #[116, 105, 116, 108, 101]), (.mk #[110, 97, 109, 101], 1, .mk #[], true, .mk #[]), (.mk #[111, 114, 103, 97, 110, 105, 122, 97, 116, 105, 111, 110, 73, 100], 6, .mk #[], false, .mk #[])] : List Prp)) := World.ownsRow_lit w5 #[.string ⟨#[107, 105, 110, 100]⟩, .int .i64 11, .string ⟨#[114, 111, 108, 101, 32, 116, 105, 116, 108, 101]⟩, .bool false, .string ⟨#[116, 105, 116, 108, 101]⟩, .string ⟨#[110, 97, 109, 101]⟩, .int .i64 1, .string ⟨#[]⟩, .bool true, .string ⟨#[]⟩, .string ⟨#[111, 114, 103, 97, 110, 105, 122, 97, 116, 105, 111, 110, 73, 100]⟩, .int .i64 6, .string ⟨#[]⟩, .bool false, .string ⟨#[]⟩] 3 g5 (by decide) rfl
  have Ho := Lib.hid ho
  clear ho
  have HB := Lib.hid (B5.out.alloc g5 (.cells #[.string ⟨#[107, 105, 110, 100]⟩, .int .i64 11, .string ⟨#[114, 111, 108, 101, 32, 116, 105, 116, 108, 101]⟩, .bool false, .string ⟨#[116, 105, 116, 108, 101]⟩, .string ⟨#[110, 97, 109, 101]⟩, .int .i64 1, .string ⟨#[]⟩, .bool true, .string ⟨#[]⟩, .string ⟨#[111, 114, 103, 97, 110, 105, 122, 97, 116, 105, 111, 110, 73, 100]⟩, .int .i64 6, .string ⟨#[]⟩, .bool false, .string ⟨#[]⟩] 41))
  go_wp2_with fail
  go_ret
  exact ⟨_, _, rfl, Ho.out, HB.out⟩
end Go.Proofs.YtijpbfafkdpolaaDoor
