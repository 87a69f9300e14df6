import Derived.Test.YtijpbfafkdpolaaDoorQ5
namespace Go.Proofs.YtijpbfafkdpolaaDoor
open Go.RowKit Go.Shelf

set_option maxRecDepth 100000 in
set_option maxHeartbeats 8000000 in
theorem at_Card (of : ByteArray) (hof : of.toList = [67, 97, 114, 100]) (W : World) : Calls Tryd.prog 22 #[.string of] W (PropsPost W.heap.size W 23 T_Card) := by
  have e0 : (of.toList == [67, 97, 114, 100]) = true := by rw [hof]; decide
  clear hof
  have B0 := Lib.hid (Below.refl W.heap.size W)
  have g0 := Nat.le_refl W.heap.size
  go_enter Tryd.func22, Tryd.ntmps22
  go_wp2_with fail
  refine (card_any _).mono ?_
  rintro e w1 ⟨A1, c1, rfl, ho, hb⟩
  have Ho := Lib.hid ho
  have Hb := Lib.hid hb
  clear ho hb
  go_wp2_with fail
  go_ret
  exact ⟨_, _, rfl, Ho.out, Hb.out⟩
set_option maxRecDepth 100000 in
set_option maxHeartbeats 8000000 in
theorem at_Address (of : ByteArray) (hof : of.toList = [65, 100, 100, 114, 101, 115, 115]) (W : World) : Calls Tryd.prog 22 #[.string of] W (PropsPost W.heap.size W 9 T_Address) := by
  have e0 : (of.toList == [67, 97, 114, 100]) = false := by rw [hof]; decide
  have e1 : (of.toList == [65, 100, 100, 114, 101, 115, 115]) = true := by rw [hof]; decide
  clear hof
  have B0 := Lib.hid (Below.refl W.heap.size W)
  have g0 := Nat.le_refl W.heap.size
  go_enter Tryd.func22, Tryd.ntmps22
  go_wp2_with fail
  refine (address_any _).mono ?_
  rintro e w1 ⟨A1, c1, rfl, ho, hb⟩
  have Ho := Lib.hid ho
  have Hb := Lib.hid hb
  clear ho hb
  go_wp2_with fail
  go_ret
  exact ⟨_, _, rfl, Ho.out, Hb.out⟩
set_option maxRecDepth 100000 in
set_option maxHeartbeats 8000000 in
theorem at_AddressComponent (of : ByteArray) (hof : of.toList = [65, 100, 100, 114, 101, 115, 115, 67, 111, 109, 112, 111, 110, 101, 110, 116]) (W : World) : Calls Tryd.prog 22 #[.string of] W (PropsPost W.heap.size W 2 T_AddressComponent) := by
  have e0 : (of.toList == [67, 97, 114, 100]) = false := by rw [hof]; decide
  have e1 : (of.toList == [65, 100, 100, 114, 101, 115, 115]) = false := by rw [hof]; decide
  have e2 : (of.toList == [65, 100, 100, 114, 101, 115, 115, 67, 111, 109, 112, 111, 110, 101, 110, 116]) = true := by rw [hof]; decide
  clear hof
  have B0 := Lib.hid (Below.refl W.heap.size W)
  have g0 := Nat.le_refl W.heap.size
  go_enter Tryd.func22, Tryd.ntmps22
  have HP := Lib.hid (part_any W.heap.size 17 [⟨#[97, 112, 97, 114, 116, 109, 101, 110, 116]⟩, ⟨#[98, 108, 111, 99, 107]⟩, ⟨#[98, 117, 105, 108, 100, 105, 110, 103]⟩, ⟨#[99, 111, 117, 110, 116, 114, 121]⟩, ⟨#[100, 105, 114, 101, 99, 116, 105, 111, 110]⟩, ⟨#[100, 105, 115, 116, 114, 105, 99, 116]⟩, ⟨#[102, 108, 111, 111, 114]⟩, ⟨#[108, 97, 110, 100, 109, 97, 114, 107]⟩, ⟨#[108, 111, 99, 97, 108, 105, 116, 121]⟩, ⟨#[110, 97, 109, 101]⟩, ⟨#[110, 117, 109, 98, 101, 114]⟩, ⟨#[112, 111, 115, 116, 79, 102, 102, 105, 99, 101, 66, 111, 120]⟩, ⟨#[112, 111, 115, 116, 99, 111, 100, 101]⟩, ⟨#[114, 101, 103, 105, 111, 110]⟩, ⟨#[114, 111, 111, 109]⟩, ⟨#[115, 101, 112, 97, 114, 97, 116, 111, 114]⟩, ⟨#[115, 117, 98, 100, 105, 115, 116, 114, 105, 99, 116]⟩] ⟨#[97, 112, 97, 114, 116, 109, 101, 110, 116, 32, 98, 108, 111, 99, 107, 32, 98, 117, 105, 108, 100, 105, 110, 103, 32, 99, 111, 117, 110, 116, 114, 121, 32, 100, 105, 114, 101, 99, 116, 105, 111, 110, 32, 100, 105, 115, 116, 114, 105, 99, 116, 32, 102, 108, 111, 111, 114, 32, 108, 97, 110, 100, 109, 97, 114, 107, 32, 108, 111, 99, 97, 108, 105, 116, 121, 32, 110, 97, 109, 101, 32, 110, 117, 109, 98, 101, 114, 32, 112, 111, 115, 116, 79, 102, 102, 105, 99, 101, 66, 111, 120, 32, 112, 111, 115, 116, 99, 111, 100, 101, 32, 114, 101, 103, 105, 111, 110, 32, 114, 111, 111, 109, 32, 115, 101, 112, 97, 114, 97, 116, 111, 114, 32, 115, 117, 98, 100, 105, 115, 116, 114, 105, 99, 116]⟩ (by decide +kernel) (W.alloc (.cells #[.string ⟨#[97, 112, 97, 114, 116, 109, 101, 110, 116]⟩, .string ⟨#[98, 108, 111, 99, 107]⟩, .string ⟨#[98, 117, 105, 108, 100, 105, 110, 103]⟩, .string ⟨#[99, 111, 117, 110, 116, 114, 121]⟩, .string ⟨#[100, 105, 114, 101, 99, 116, 105, 111, 110]⟩, .string ⟨#[100, 105, 115, 116, 114, 105, 99, 116]⟩, .string ⟨#[102, 108, 111, 111, 114]⟩, .string ⟨#[108, 97, 110, 100, 109, 97, 114, 107]⟩, .string ⟨#[108, 111, 99, 97, 108, 105, 116, 121]⟩, .string ⟨#[110, 97, 109, 101]⟩, .string ⟨#[110, 117, 109, 98, 101, 114]⟩, .string ⟨#[112, 111, 115, 116, 79, 102, 102, 105, 99, 101, 66, 111, 120]⟩, .string ⟨#[112, 111, 115, 116, 99, 111, 100, 101]⟩, .string ⟨#[114, 101, 103, 105, 111, 110]⟩, .string ⟨#[114, 111, 111, 109]⟩, .string ⟨#[115, 101, 112, 97, 114, 97, 116, 111, 114]⟩, .string ⟨#[115, 117, 98, 100, 105, 115, 116, 114, 105, 99, 116]⟩] 9)) rfl (lit_cells W [⟨#[97, 112, 97, 114, 116, 109, 101, 110, 116]⟩, ⟨#[98, 108, 111, 99, 107]⟩, ⟨#[98, 117, 105, 108, 100, 105, 110, 103]⟩, ⟨#[99, 111, 117, 110, 116, 114, 121]⟩, ⟨#[100, 105, 114, 101, 99, 116, 105, 111, 110]⟩, ⟨#[100, 105, 115, 116, 114, 105, 99, 116]⟩, ⟨#[102, 108, 111, 111, 114]⟩, ⟨#[108, 97, 110, 100, 109, 97, 114, 107]⟩, ⟨#[108, 111, 99, 97, 108, 105, 116, 121]⟩, ⟨#[110, 97, 109, 101]⟩, ⟨#[110, 117, 109, 98, 101, 114]⟩, ⟨#[112, 111, 115, 116, 79, 102, 102, 105, 99, 101, 66, 111, 120]⟩, ⟨#[112, 111, 115, 116, 99, 111, 100, 101]⟩, ⟨#[114, 101, 103, 105, 111, 110]⟩, ⟨#[114, 111, 111, 109]⟩, ⟨#[115, 101, 112, 97, 114, 97, 116, 111, 114]⟩, ⟨#[115, 117, 98, 100, 105, 115, 116, 114, 105, 99, 116]⟩] 9) (by simp) (by decide) (by decide))
  have HB := Lib.hid ((Below.refl W.heap.size W).alloc (Nat.le_refl _) (.cells #[.string ⟨#[97, 112, 97, 114, 116, 109, 101, 110, 116]⟩, .string ⟨#[98, 108, 111, 99, 107]⟩, .string ⟨#[98, 117, 105, 108, 100, 105, 110, 103]⟩, .string ⟨#[99, 111, 117, 110, 116, 114, 121]⟩, .string ⟨#[100, 105, 114, 101, 99, 116, 105, 111, 110]⟩, .string ⟨#[100, 105, 115, 116, 114, 105, 99, 116]⟩, .string ⟨#[102, 108, 111, 111, 114]⟩, .string ⟨#[108, 97, 110, 100, 109, 97, 114, 107]⟩, .string ⟨#[108, 111, 99, 97, 108, 105, 116, 121]⟩, .string ⟨#[110, 97, 109, 101]⟩, .string ⟨#[110, 117, 109, 98, 101, 114]⟩, .string ⟨#[112, 111, 115, 116, 79, 102, 102, 105, 99, 101, 66, 111, 120]⟩, .string ⟨#[112, 111, 115, 116, 99, 111, 100, 101]⟩, .string ⟨#[114, 101, 103, 105, 111, 110]⟩, .string ⟨#[114, 111, 111, 109]⟩, .string ⟨#[115, 101, 112, 97, 114, 97, 116, 111, 114]⟩, .string ⟨#[115, 117, 98, 100, 105, 115, 116, 114, 105, 99, 116]⟩] 9))
  go_wp2_with fail
  refine HP.out.mono ?_
  rintro e w1 ⟨A1, c1, rfl, ho, hb⟩
  have Ho := Lib.hid (own_base ho (show W.heap.size ≤ _ by simp))
  have Hb := Lib.hid (HB.out.trans (hb.mono (show W.heap.size ≤ _ by simp)))
  clear ho hb
  go_wp2_with fail
  go_ret
  exact ⟨_, _, rfl, Ho.out, Hb.out⟩
set_option maxRecDepth 100000 in
set_option maxHeartbeats 8000000 in
theorem at_Anniversary (of : ByteArray) (hof : of.toList = [65, 110, 110, 105, 118, 101, 114, 115, 97, 114, 121]) (W : World) : Calls Tryd.prog 22 #[.string of] W (PropsPost W.heap.size W 2 T_Anniversary) := by
  have e0 : (of.toList == [67, 97, 114, 100]) = false := by rw [hof]; decide
  have e1 : (of.toList == [65, 100, 100, 114, 101, 115, 115]) = false := by rw [hof]; decide
  have e2 : (of.toList == [65, 100, 100, 114, 101, 115, 115, 67, 111, 109, 112, 111, 110, 101, 110, 116]) = false := by rw [hof]; decide
  have e3 : (of.toList == [65, 110, 110, 105, 118, 101, 114, 115, 97, 114, 121]) = true := by rw [hof]; decide
  clear hof
  have B0 := Lib.hid (Below.refl W.heap.size W)
  have g0 := Nat.le_refl W.heap.size
  go_enter Tryd.func22, Tryd.ntmps22
  go_wp2_with fail
  refine (p_none ⟨#[100, 97, 116, 101]⟩ 18 _).mono ?_
  rintro e w1 ⟨rfl, hb1⟩
  have B1 := Lib.hid (B0.out.trans (hb1.mono g0))
  have g1 := Nat.le_trans g0 hb1.size
  clear hb1 B0 g0
  go_wp2_with fail
  refine (must_any ⟨#[100, 97, 116, 101]⟩ ⟨#[]⟩ ⟨#[]⟩ 18 false _).mono ?_
  rintro e w2 ⟨rfl, hb1⟩
  have B2 := Lib.hid (B1.out.trans (hb1.mono g1))
  have g2 := Nat.le_trans g1 hb1.size
  clear hb1 B1 g1
  go_wp2_with fail
  refine (pw_19 _).mono ?_
  rintro e w3 ⟨rfl, hb1⟩
  have B3 := Lib.hid (B2.out.trans (hb1.mono g2))
  have g3 := Nat.le_trans g2 hb1.size
  clear hb1 B2 g2
  go_wp2_with fail
  refine (must_any ⟨#[107, 105, 110, 100]⟩ ⟨#[98, 105, 114, 116, 104, 32, 100, 101, 97, 116, 104, 32, 119, 101, 100, 100, 105, 110, 103]⟩ ⟨#[]⟩ 11 false _).mono ?_
  rintro e w4 ⟨rfl, hb1⟩
  have B4 := Lib.hid (B3.out.trans (hb1.mono g3))
  have g4 := Nat.le_trans g3 hb1.size
  clear hb1 B3 g3
  have ho : (w4.alloc (.cells #[.string ⟨#[100, 97, 116, 101]⟩, .int .i64 18, .string ⟨#[]⟩, .bool true, .string ⟨#[]⟩, .string ⟨#[107, 105, 110, 100]⟩, .int .i64 11, .string ⟨#[98, 105, 114, 116, 104, 32, 100, 101, 97, 116, 104, 32, 119, 101, 100, 100, 105, 110, 103]⟩, .bool true, .string ⟨#[]⟩] 41)).ownsRow W.heap.size 41 5 (.slice (some ⟨w4.heap.size, 0, none⟩) 2 2) 2 (cellsP ([(.mk #[100, 97, 116, 101], 18, .mk #[], true, .mk #[]), (.mk #[107, 105, 110, 100], 11, .mk #[98, 105, 114, 116, 104, 32, 100, 101, 97, 116, 104, 32, 119, 101, 100, 100, 105, 110, 103], true, .mk #[])] : List Prp)) := World.ownsRow_lit w4 #[.string ⟨#[100, 97, 116, 101]⟩, .int .i64 18, .string ⟨#[]⟩, .bool true, .string ⟨#[]⟩, .string ⟨#[107, 105, 110, 100]⟩, .int .i64 11, .string ⟨#[98, 105, 114, 116, 104, 32, 100, 101, 97, 116, 104, 32, 119, 101, 100, 100, 105, 110, 103]⟩, .bool true, .string ⟨#[]⟩] 2 g4 (by decide) rfl
  have Ho := Lib.hid ho
  clear ho
  have HB := Lib.hid (B4.out.alloc g4 (.cells #[.string ⟨#[100, 97, 116, 101]⟩, .int .i64 18, .string ⟨#[]⟩, .bool true, .string ⟨#[]⟩, .string ⟨#[107, 105, 110, 100]⟩, .int .i64 11, .string ⟨#[98, 105, 114, 116, 104, 32, 100, 101, 97, 116, 104, 32, 119, 101, 100, 100, 105, 110, 103]⟩, .bool true, .string ⟨#[]⟩] 41))
  go_wp2_with fail
  go_ret
  exact ⟨_, _, rfl, Ho.out, HB.out⟩
set_option maxRecDepth 100000 in
set_option maxHeartbeats 8000000 in
theorem at_EmailAddress (of : ByteArray) (hof : of.toList = [69, 109, 97, 105, 108, 65, 100, 100, 114, 101, 115, 115]) (W : World) : Calls Tryd.prog 22 #[.string of] W (PropsPost W.heap.size W 4 T_EmailAddress) := by
  have e0 : (of.toList == [67, 97, 114, 100]) = false := by rw [hof]; decide
  have e1 : (of.toList == [65, 100, 100, 114, 101, 115, 115]) = false := by rw [hof]; decide
  have e2 : (of.toList == [65, 100, 100, 114, 101, 115, 115, 67, 111, 109, 112, 111, 110, 101, 110, 116]) = false := by rw [hof]; decide
  have e3 : (of.toList == [65, 110, 110, 105, 118, 101, 114, 115, 97, 114, 121]) = false := by rw [hof]; decide
  have e4 : (of.toList == [69, 109, 97, 105, 108, 65, 100, 100, 114, 101, 115, 115]) = true := by rw [hof]; decide
  clear hof
  have B0 := Lib.hid (Below.refl W.heap.size W)
  have g0 := Nat.le_refl W.heap.size
  go_enter Tryd.func22, Tryd.ntmps22
  go_wp2_with fail
  refine (p_none ⟨#[97, 100, 100, 114, 101, 115, 115]⟩ 1 _).mono ?_
  rintro e w1 ⟨rfl, hb1⟩
  have B1 := Lib.hid (B0.out.trans (hb1.mono g0))
  have g1 := Nat.le_trans g0 hb1.size
  clear hb1 B0 g0
  go_wp2_with fail
  refine (must_any ⟨#[97, 100, 100, 114, 101, 115, 115]⟩ ⟨#[]⟩ ⟨#[]⟩ 1 false _).mono ?_
  rintro e w2 ⟨rfl, hb1⟩
  have B2 := Lib.hid (B1.out.trans (hb1.mono g1))
  have g2 := Nat.le_trans g1 hb1.size
  clear hb1 B1 g1
  go_wp2_with fail
  refine (p_none ⟨#[108, 97, 98, 101, 108]⟩ 1 _).mono ?_
  rintro e w3 ⟨rfl, hb1⟩
  have B3 := Lib.hid (B2.out.trans (hb1.mono g2))
  have g3 := Nat.le_trans g2 hb1.size
  clear hb1 B2 g2
  have ho : (w3.alloc (.cells #[.string ⟨#[97, 100, 100, 114, 101, 115, 115]⟩, .int .i64 1, .string ⟨#[]⟩, .bool true, .string ⟨#[]⟩, .string ⟨#[108, 97, 98, 101, 108]⟩, .int .i64 1, .string ⟨#[]⟩, .bool false, .string ⟨#[]⟩] 41)).ownsRow w3.heap.size 41 5 (.slice (some ⟨w3.heap.size, 0, none⟩) 2 2) 2 (cellsP ([(.mk #[97, 100, 100, 114, 101, 115, 115], 1, .mk #[], true, .mk #[]), (.mk #[108, 97, 98, 101, 108], 1, .mk #[], false, .mk #[])] : List Prp)) := World.ownsRow_lit w3 #[.string ⟨#[97, 100, 100, 114, 101, 115, 115]⟩, .int .i64 1, .string ⟨#[]⟩, .bool true, .string ⟨#[]⟩, .string ⟨#[108, 97, 98, 101, 108]⟩, .int .i64 1, .string ⟨#[]⟩, .bool false, .string ⟨#[]⟩] 2 (Nat.le_refl _) (by decide) rfl
  have HB := Lib.hid (B3.out.alloc g3 (.cells #[.string ⟨#[97, 100, 100, 114, 101, 115, 115]⟩, .int .i64 1, .string ⟨#[]⟩, .bool true, .string ⟨#[]⟩, .string ⟨#[108, 97, 98, 101, 108]⟩, .int .i64 1, .string ⟨#[]⟩, .bool false, .string ⟨#[]⟩] 41))
  have HU := Lib.hid (used_any w3.heap.size 2 ([(.mk #[97, 100, 100, 114, 101, 115, 115], 1, .mk #[], true, .mk #[]), (.mk #[108, 97, 98, 101, 108], 1, .mk #[], false, .mk #[])] : List Prp) T_EmailAddress _ ho rfl (by decide) (by simp) (by decide +kernel) (by decide +kernel))
  clear ho
  go_wp2_with fail
  refine HU.out.mono ?_
  rintro e wz ⟨Az, cz, rfl, hoz, hbz⟩
  have Ho := Lib.hid (own_base hoz g3)
  have Hb := Lib.hid (HB.out.trans (hbz.mono g3))
  clear hoz hbz
  go_wp2_with fail
  go_ret
  exact ⟨_, _, rfl, Ho.out, Hb.out⟩
set_option maxRecDepth 100000 in
set_option maxHeartbeats 8000000 in
theorem at_LanguagePref (of : ByteArray) (hof : of.toList = [76, 97, 110, 103, 117, 97, 103, 101, 80, 114, 101, 102]) (W : World) : Calls Tryd.prog 22 #[.string of] W (PropsPost W.heap.size W 3 T_LanguagePref) := by
  have e0 : (of.toList == [67, 97, 114, 100]) = false := by rw [hof]; decide
  have e1 : (of.toList == [65, 100, 100, 114, 101, 115, 115]) = false := by rw [hof]; decide
  have e2 : (of.toList == [65, 100, 100, 114, 101, 115, 115, 67, 111, 109, 112, 111, 110, 101, 110, 116]) = false := by rw [hof]; decide
  have e3 : (of.toList == [65, 110, 110, 105, 118, 101, 114, 115, 97, 114, 121]) = false := by rw [hof]; decide
  have e4 : (of.toList == [69, 109, 97, 105, 108, 65, 100, 100, 114, 101, 115, 115]) = false := by rw [hof]; decide
  have e5 : (of.toList == [76, 97, 110, 103, 117, 97, 103, 101, 80, 114, 101, 102]) = true := by rw [hof]; decide
  clear hof
  have B0 := Lib.hid (Below.refl W.heap.size W)
  have g0 := Nat.le_refl W.heap.size
  go_enter Tryd.func22, Tryd.ntmps22
  go_wp2_with fail
  refine (p_none ⟨#[108, 97, 110, 103, 117, 97, 103, 101]⟩ 10 _).mono ?_
  rintro e w1 ⟨rfl, hb1⟩
  have B1 := Lib.hid (B0.out.trans (hb1.mono g0))
  have g1 := Nat.le_trans g0 hb1.size
  clear hb1 B0 g0
  go_wp2_with fail
  refine (must_any ⟨#[108, 97, 110, 103, 117, 97, 103, 101]⟩ ⟨#[]⟩ ⟨#[]⟩ 10 false _).mono ?_
  rintro e w2 ⟨rfl, hb1⟩
  have B2 := Lib.hid (B1.out.trans (hb1.mono g1))
  have g2 := Nat.le_trans g1 hb1.size
  clear hb1 B1 g1
  have ho : (w2.alloc (.cells #[.string ⟨#[108, 97, 110, 103, 117, 97, 103, 101]⟩, .int .i64 10, .string ⟨#[]⟩, .bool true, .string ⟨#[]⟩] 41)).ownsRow w2.heap.size 41 5 (.slice (some ⟨w2.heap.size, 0, none⟩) 1 1) 1 (cellsP ([(.mk #[108, 97, 110, 103, 117, 97, 103, 101], 10, .mk #[], true, .mk #[])] : List Prp)) := World.ownsRow_lit w2 #[.string ⟨#[108, 97, 110, 103, 117, 97, 103, 101]⟩, .int .i64 10, .string ⟨#[]⟩, .bool true, .string ⟨#[]⟩] 1 (Nat.le_refl _) (by decide) rfl
  have HB := Lib.hid (B2.out.alloc g2 (.cells #[.string ⟨#[108, 97, 110, 103, 117, 97, 103, 101]⟩, .int .i64 10, .string ⟨#[]⟩, .bool true, .string ⟨#[]⟩] 41))
  have HU := Lib.hid (used_any w2.heap.size 1 ([(.mk #[108, 97, 110, 103, 117, 97, 103, 101], 10, .mk #[], true, .mk #[])] : List Prp) T_LanguagePref _ ho rfl (by decide) (by simp) (by decide +kernel) (by decide +kernel))
  clear ho
  go_wp2_with fail
  refine HU.out.mono ?_
  rintro e wz ⟨Az, cz, rfl, hoz, hbz⟩
  have Ho := Lib.hid (own_base hoz g2)
  have Hb := Lib.hid (HB.out.trans (hbz.mono g2))
  clear hoz hbz
  go_wp2_with fail
  go_ret
  exact ⟨_, _, rfl, Ho.out, Hb.out⟩
set_option maxRecDepth 100000 in
set_option maxHeartbeats 8000000 in
theorem at_Link (of : ByteArray) (hof : of.toList = [76, 105, 110, 107]) (W : World) : Calls Tryd.prog 22 #[.string of] W (PropsPost W.heap.size W 6 T_Link) := by
  have e0 : (of.toList == [67, 97, 114, 100]) = false := by rw [hof]; decide
  have e1 : (of.toList == [65, 100, 100, 114, 101, 115, 115]) = false := by rw [hof]; decide
  have e2 : (of.toList == [65, 100, 100, 114, 101, 115, 115, 67, 111, 109, 112, 111, 110, 101, 110, 116]) = false := by rw [hof]; decide
  have e3 : (of.toList == [65, 110, 110, 105, 118, 101, 114, 115, 97, 114, 121]) = false := by rw [hof]; decide
  have e4 : (of.toList == [69, 109, 97, 105, 108, 65, 100, 100, 114, 101, 115, 115]) = false := by rw [hof]; decide
  have e5 : (of.toList == [76, 97, 110, 103, 117, 97, 103, 101, 80, 114, 101, 102]) = false := by rw [hof]; decide
  have e6 : (of.toList == [76, 105, 110, 107]) = true := by rw [hof]; decide
  clear hof
  have B0 := Lib.hid (Below.refl W.heap.size W)
  have g0 := Nat.le_refl W.heap.size
  go_enter Tryd.func22, Tryd.ntmps22
  go_wp2_with fail
  refine (pw_20 _).mono ?_
  rintro e w1 ⟨rfl, hb1⟩
  have B1 := Lib.hid (B0.out.trans (hb1.mono g0))
  have g1 := Nat.le_trans g0 hb1.size
  clear hb1 B0 g0
  go_wp2_with fail
  refine (p_none ⟨#[108, 97, 98, 101, 108]⟩ 1 _).mono ?_
  rintro e w2 ⟨rfl, hb1⟩
  have B2 := Lib.hid (B1.out.trans (hb1.mono g1))
  have g2 := Nat.le_trans g1 hb1.size
  clear hb1 B1 g1
  go_wp2_with fail
  refine (p_none ⟨#[109, 101, 100, 105, 97, 84, 121, 112, 101]⟩ 9 _).mono ?_
  rintro e w3 ⟨rfl, hb1⟩
  have B3 := Lib.hid (B2.out.trans (hb1.mono g2))
  have g3 := Nat.le_trans g2 hb1.size
  clear hb1 B2 g2
  go_wp2_with fail
  refine (p_none ⟨#[117, 114, 105]⟩ 8 _).mono ?_
  rintro e w4 ⟨rfl, hb1⟩
  have B4 := Lib.hid (B3.out.trans (hb1.mono g3))
  have g4 := Nat.le_trans g3 hb1.size
  clear hb1 B3 g3
  go_wp2_with fail
  refine (must_any ⟨#[117, 114, 105]⟩ ⟨#[]⟩ ⟨#[]⟩ 8 false _).mono ?_
  rintro e w5 ⟨rfl, hb1⟩
  have B5 := Lib.hid (B4.out.trans (hb1.mono g4))
  have g5 := Nat.le_trans g4 hb1.size
  clear hb1 B4 g4
  have ho : (w5.alloc (.cells #[.string ⟨#[107, 105, 110, 100]⟩, .int .i64 11, .string ⟨#[99, 111, 110, 116, 97, 99, 116]⟩, .bool false, .string ⟨#[]⟩, .string ⟨#[108, 97, 98, 101, 108]⟩, .int .i64 1, .string ⟨#[]⟩, .bool false, .string ⟨#[]⟩, .string ⟨#[109, 101, 100, 105, 97, 84, 121, 112, 101]⟩, .int .i64 9, .string ⟨#[]⟩, .bool false, .string ⟨#[]⟩, .string ⟨#[117, 114, 105]⟩, .int .i64 8, .string ⟨#[]⟩, .bool true, .string ⟨#[]⟩] 41)).ownsRow w5.heap.size 41 5 (.slice (some ⟨w5.heap.size, 0, none⟩) 4 4) 4 (cellsP ([(.mk #[107, 105, 110, 100], 11, .mk #[99, 111, 110, 116, 97, 99, 116], false, .mk #[]), (.mk #[108, 97, 98, 101, 108], 1, .mk #[], false, .mk #[]), (.mk #[109, 101, 100, 105, 97, 84, 121, 112, 101], 9, .mk #[], false, .mk #[]), (.mk #[117, 114, 105], 8, .mk #[], true, .mk #[])] : List Prp)) := World.ownsRow_lit w5 #[.string ⟨#[107, 105, 110, 100]⟩, .int .i64 11, .string ⟨#[99, 111, 110, 116, 97, 99, 116]⟩, .bool false, .string ⟨#[]⟩, .string ⟨#[108, 97, 98, 101, 108]⟩, .int .i64 1, .string ⟨#[]⟩, .bool false, .string ⟨#[]⟩, .string ⟨#[109, 101, 100, 105, 97, 84, 121, 112, 101]⟩, .int .i64 9, .string ⟨#[]⟩, .bool false, .string ⟨#[]⟩, .string ⟨#[117, 114, 105]⟩, .int .i64 8, .string ⟨#[]⟩, .bool true, .string ⟨#[]⟩] 4 (Nat.le_refl _) (by decide) rfl
  have HB := Lib.hid (B5.out.alloc g5 (.cells #[.string ⟨#[107, 105, 110, 100]⟩, .int .i64 11, .string ⟨#[99, 111, 110, 116, 97, 99, 116]⟩, .bool false, .string ⟨#[]⟩, .string ⟨#[108, 97, 98, 101, 108]⟩, .int .i64 1, .string ⟨#[]⟩, .bool false, .string ⟨#[]⟩, .string ⟨#[109, 101, 100, 105, 97, 84, 121, 112, 101]⟩, .int .i64 9, .string ⟨#[]⟩, .bool false, .string ⟨#[]⟩, .string ⟨#[117, 114, 105]⟩, .int .i64 8, .string ⟨#[]⟩, .bool true, .string ⟨#[]⟩] 41))
  have HU := Lib.hid (used_any w5.heap.size 4 ([(.mk #[107, 105, 110, 100], 11, .mk #[99, 111, 110, 116, 97, 99, 116], false, .mk #[]), (.mk #[108, 97, 98, 101, 108], 1, .mk #[], false, .mk #[]), (.mk #[109, 101, 100, 105, 97, 84, 121, 112, 101], 9, .mk #[], false, .mk #[]), (.mk #[117, 114, 105], 8, .mk #[], true, .mk #[])] : List Prp) T_Link _ ho rfl (by decide) (by simp) (by decide +kernel) (by decide +kernel))
  clear ho
  go_wp2_with fail
  refine HU.out.mono ?_
  rintro e wz ⟨Az, cz, rfl, hoz, hbz⟩
  have Ho := Lib.hid (own_base hoz g5)
  have Hb := Lib.hid (HB.out.trans (hbz.mono g5))
  clear hoz hbz
  go_wp2_with fail
  go_ret
  exact ⟨_, _, rfl, Ho.out, Hb.out⟩
set_option maxRecDepth 100000 in
set_option maxHeartbeats 8000000 in
theorem at_Media (of : ByteArray) (hof : of.toList = [77, 101, 100, 105, 97]) (W : World) : Calls Tryd.prog 22 #[.string of] W (PropsPost W.heap.size W 6 T_Media) := by
  have e0 : (of.toList == [67, 97, 114, 100]) = false := by rw [hof]; decide
  have e1 : (of.toList == [65, 100, 100, 114, 101, 115, 115]) = false := by rw [hof]; decide
  have e2 : (of.toList == [65, 100, 100, 114, 101, 115, 115, 67, 111, 109, 112, 111, 110, 101, 110, 116]) = false := by rw [hof]; decide
  have e3 : (of.toList == [65, 110, 110, 105, 118, 101, 114, 115, 97, 114, 121]) = false := by rw [hof]; decide
  have e4 : (of.toList == [69, 109, 97, 105, 108, 65, 100, 100, 114, 101, 115, 115]) = false := by rw [hof]; decide
  have e5 : (of.toList == [76, 97, 110, 103, 117, 97, 103, 101, 80, 114, 101, 102]) = false := by rw [hof]; decide
  have e6 : (of.toList == [76, 105, 110, 107]) = false := by rw [hof]; decide
  have e7 : (of.toList == [77, 101, 100, 105, 97]) = true := by rw [hof]; decide
  clear hof
  have B0 := Lib.hid (Below.refl W.heap.size W)
  have g0 := Nat.le_refl W.heap.size
  go_enter Tryd.func22, Tryd.ntmps22
  go_wp2_with fail
  refine (pw_21 _).mono ?_
  rintro e w1 ⟨rfl, hb1⟩
  have B1 := Lib.hid (B0.out.trans (hb1.mono g0))
  have g1 := Nat.le_trans g0 hb1.size
  clear hb1 B0 g0
  go_wp2_with fail
  refine (must_any ⟨#[107, 105, 110, 100]⟩ ⟨#[108, 111, 103, 111, 32, 112, 104, 111, 116, 111, 32, 115, 111, 117, 110, 100]⟩ ⟨#[]⟩ 11 false _).mono ?_
  rintro e w2 ⟨rfl, hb1⟩
  have B2 := Lib.hid (B1.out.trans (hb1.mono g1))
  have g2 := Nat.le_trans g1 hb1.size
  clear hb1 B1 g1
  go_wp2_with fail
  refine (p_none ⟨#[108, 97, 98, 101, 108]⟩ 1 _).mono ?_
  rintro e w3 ⟨rfl, hb1⟩
  have B3 := Lib.hid (B2.out.trans (hb1.mono g2))
  have g3 := Nat.le_trans g2 hb1.size
  clear hb1 B2 g2
  go_wp2_with fail
  refine (p_none ⟨#[109, 101, 100, 105, 97, 84, 121, 112, 101]⟩ 9 _).mono ?_
  rintro e w4 ⟨rfl, hb1⟩
  have B4 := Lib.hid (B3.out.trans (hb1.mono g3))
  have g4 := Nat.le_trans g3 hb1.size
  clear hb1 B3 g3
  go_wp2_with fail
  refine (p_none ⟨#[117, 114, 105]⟩ 8 _).mono ?_
  rintro e w5 ⟨rfl, hb1⟩
  have B5 := Lib.hid (B4.out.trans (hb1.mono g4))
  have g5 := Nat.le_trans g4 hb1.size
  clear hb1 B4 g4
  go_wp2_with fail
  refine (must_any ⟨#[117, 114, 105]⟩ ⟨#[]⟩ ⟨#[]⟩ 8 false _).mono ?_
  rintro e w6 ⟨rfl, hb1⟩
  have B6 := Lib.hid (B5.out.trans (hb1.mono g5))
  have g6 := Nat.le_trans g5 hb1.size
  clear hb1 B5 g5
  have ho : (w6.alloc (.cells #[.string ⟨#[107, 105, 110, 100]⟩, .int .i64 11, .string ⟨#[108, 111, 103, 111, 32, 112, 104, 111, 116, 111, 32, 115, 111, 117, 110, 100]⟩, .bool true, .string ⟨#[]⟩, .string ⟨#[108, 97, 98, 101, 108]⟩, .int .i64 1, .string ⟨#[]⟩, .bool false, .string ⟨#[]⟩, .string ⟨#[109, 101, 100, 105, 97, 84, 121, 112, 101]⟩, .int .i64 9, .string ⟨#[]⟩, .bool false, .string ⟨#[]⟩, .string ⟨#[117, 114, 105]⟩, .int .i64 8, .string ⟨#[]⟩, .bool true, .string ⟨#[]⟩] 41)).ownsRow w6.heap.size 41 5 (.slice (some ⟨w6.heap.size, 0, none⟩) 4 4) 4 (cellsP ([(.mk #[107, 105, 110, 100], 11, .mk #[108, 111, 103, 111, 32, 112, 104, 111, 116, 111, 32, 115, 111, 117, 110, 100], true, .mk #[]), (.mk #[108, 97, 98, 101, 108], 1, .mk #[], false, .mk #[]), (.mk #[109, 101, 100, 105, 97, 84, 121, 112, 101], 9, .mk #[], false, .mk #[]), (.mk #[117, 114, 105], 8, .mk #[], true, .mk #[])] : List Prp)) := World.ownsRow_lit w6 #[.string ⟨#[107, 105, 110, 100]⟩, .int .i64 11, .string ⟨#[108, 111, 103, 111, 32, 112, 104, 111, 116, 111, 32, 115, 111, 117, 110, 100]⟩, .bool true, .string ⟨#[]⟩, .string ⟨#[108, 97, 98, 101, 108]⟩, .int .i64 1, .string ⟨#[]⟩, .bool false, .string ⟨#[]⟩, .string ⟨#[109, 101, 100, 105, 97, 84, 121, 112, 101]⟩, .int .i64 9, .string ⟨#[]⟩, .bool false, .string ⟨#[]⟩, .string ⟨#[117, 114, 105]⟩, .int .i64 8, .string ⟨#[]⟩, .bool true, .string ⟨#[]⟩] 4 (Nat.le_refl _) (by decide) rfl
  have HB := Lib.hid (B6.out.alloc g6 (.cells #[.string ⟨#[107, 105, 110, 100]⟩, .int .i64 11, .string ⟨#[108, 111, 103, 111, 32, 112, 104, 111, 116, 111, 32, 115, 111, 117, 110, 100]⟩, .bool true, .string ⟨#[]⟩, .string ⟨#[108, 97, 98, 101, 108]⟩, .int .i64 1, .string ⟨#[]⟩, .bool false, .string ⟨#[]⟩, .string ⟨#[109, 101, 100, 105, 97, 84, 121, 112, 101]⟩, .int .i64 9, .string ⟨#[]⟩, .bool false, .string ⟨#[]⟩, .string ⟨#[117, 114, 105]⟩, .int .i64 8, .string ⟨#[]⟩, .bool true, .string ⟨#[]⟩] 41))
  have HU := Lib.hid (used_any w6.heap.size 4 ([(.mk #[107, 105, 110, 100], 11, .mk #[108, 111, 103, 111, 32, 112, 104, 111, 116, 111, 32, 115, 111, 117, 110, 100], true, .mk #[]), (.mk #[108, 97, 98, 101, 108], 1, .mk #[], false, .mk #[]), (.mk #[109, 101, 100, 105, 97, 84, 121, 112, 101], 9, .mk #[], false, .mk #[]), (.mk #[117, 114, 105], 8, .mk #[], true, .mk #[])] : List Prp) T_Media _ ho rfl (by decide) (by simp) (by decide +kernel) (by decide +kernel))
  clear ho
  go_wp2_with fail
  refine HU.out.mono ?_
  rintro e wz ⟨Az, cz, rfl, hoz, hbz⟩
  have Ho := Lib.hid (own_base hoz g6)
  have Hb := Lib.hid (HB.out.trans (hbz.mono g6))
  clear hoz hbz
  go_wp2_with fail
  go_ret
  exact ⟨_, _, rfl, Ho.out, Hb.out⟩
end Go.Proofs.YtijpbfafkdpolaaDoor
