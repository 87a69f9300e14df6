import Derived.Test.YtijpbfafkdpolaaDoorQ4
namespace Go.Proofs.YtijpbfafkdpolaaDoor
open Go.RowKit Go.Shelf

def T_Card : List Prp := ([(.mk #[97, 100, 100, 114, 101, 115, 115, 101, 115], 14, .mk #[65, 100, 100, 114, 101, 115, 115], false, .mk #[]), (.mk #[97, 110, 110, 105, 118, 101, 114, 115, 97, 114, 105, 101, 115], 14, .mk #[65, 110, 110, 105, 118, 101, 114, 115, 97, 114, 121], false, .mk #[]), (.mk #[99, 114, 101, 97, 116, 101, 100], 7, .mk #[], false, .mk #[]), (.mk #[101, 109, 97, 105, 108, 115], 14, .mk #[69, 109, 97, 105, 108, 65, 100, 100, 114, 101, 115, 115], false, .mk #[]), (.mk #[107, 101, 121, 119, 111, 114, 100, 115], 16, .mk #[], false, .mk #[]), (.mk #[107, 105, 110, 100], 11, .mk #[97, 112, 112, 108, 105, 99, 97, 116, 105, 111, 110, 32, 100, 101, 118, 105, 99, 101, 32, 103, 114, 111, 117, 112, 32, 105, 110, 100, 105, 118, 105, 100, 117, 97, 108, 32, 108, 111, 99, 97, 116, 105, 111, 110, 32, 111, 114, 103], false, .mk #[105, 110, 100, 105, 118, 105, 100, 117, 97, 108]), (.mk #[108, 97, 110, 103, 117, 97, 103, 101], 10, .mk #[], false, .mk #[]), (.mk #[108, 105, 110, 107, 115], 14, .mk #[76, 105, 110, 107], false, .mk #[]), (.mk #[109, 101, 100, 105, 97], 14, .mk #[77, 101, 100, 105, 97], false, .mk #[]), (.mk #[109, 101, 109, 98, 101, 114, 115], 16, .mk #[], false, .mk #[]), (.mk #[110, 97, 109, 101], 12, .mk #[78, 97, 109, 101], false, .mk #[]), (.mk #[110, 105, 99, 107, 110, 97, 109, 101, 115], 14, .mk #[78, 105, 99, 107, 110, 97, 109, 101], false, .mk #[]), (.mk #[110, 111, 116, 101, 115], 14, .mk #[78, 111, 116, 101], false, .mk #[]), (.mk #[111, 110, 108, 105, 110, 101, 83, 101, 114, 118, 105, 99, 101, 115], 14, .mk #[79, 110, 108, 105, 110, 101, 83, 101, 114, 118, 105, 99, 101], false, .mk #[]), (.mk #[111, 114, 103, 97, 110, 105, 122, 97, 116, 105, 111, 110, 115], 14, .mk #[79, 114, 103, 97, 110, 105, 122, 97, 116, 105, 111, 110], false, .mk #[]), (.mk #[112, 104, 111, 110, 101, 115], 14, .mk #[80, 104, 111, 110, 101], false, .mk #[]), (.mk #[112, 114, 101, 102, 101, 114, 114, 101, 100, 76, 97, 110, 103, 117, 97, 103, 101, 115], 14, .mk #[76, 97, 110, 103, 117, 97, 103, 101, 80, 114, 101, 102], false, .mk #[]), (.mk #[112, 114, 111, 100, 73, 100], 1, .mk #[], false, .mk #[]), (.mk #[114, 101, 108, 97, 116, 101, 100, 84, 111], 15, .mk #[82, 101, 108, 97, 116, 105, 111, 110], false, .mk #[]), (.mk #[116, 105, 116, 108, 101, 115], 14, .mk #[84, 105, 116, 108, 101], false, .mk #[]), (.mk #[117, 105, 100], 2, .mk #[], true, .mk #[]), (.mk #[117, 112, 100, 97, 116, 101, 100], 7, .mk #[], false, .mk #[]), (.mk #[118, 101, 114, 115, 105, 111, 110], 11, .mk #[49, 46, 48], true, .mk #[])] : List Prp)
def T_Address : List Prp := ([(.mk #[99, 111, 109, 112, 111, 110, 101, 110, 116, 115], 13, .mk #[65, 100, 100, 114, 101, 115, 115, 67, 111, 109, 112, 111, 110, 101, 110, 116], false, .mk #[]), (.mk #[99, 111, 110, 116, 101, 120, 116, 115], 17, .mk #[98, 105, 108, 108, 105, 110, 103, 32, 100, 101, 108, 105, 118, 101, 114, 121, 32, 112, 114, 105, 118, 97, 116, 101, 32, 119, 111, 114, 107], false, .mk #[]), (.mk #[99, 111, 111, 114, 100, 105, 110, 97, 116, 101, 115], 8, .mk #[], false, .mk #[]), (.mk #[99, 111, 117, 110, 116, 114, 121, 67, 111, 100, 101], 1, .mk #[], false, .mk #[]), (.mk #[100, 101, 102, 97, 117, 108, 116, 83, 101, 112, 97, 114, 97, 116, 111, 114], 1, .mk #[], false, .mk #[]), (.mk #[102, 117, 108, 108], 1, .mk #[], false, .mk #[]), (.mk #[105, 115, 79, 114, 100, 101, 114, 101, 100], 3, .mk #[], false, .mk #[102, 97, 108, 115, 101]), (.mk #[112, 114, 101, 102], 5, .mk #[], false, .mk #[]), (.mk #[116, 105, 109, 101, 90, 111, 110, 101], 1, .mk #[], false, .mk #[])] : List Prp)
def T_AddressComponent : List Prp := ([(.mk #[107, 105, 110, 100], 11, .mk #[97, 112, 97, 114, 116, 109, 101, 110, 116, 32, 98, 108, 111, 99, 107, 32, 98, 117, 105, 108, 100, 105, 110, 103, 32, 99, 111, 117, 110, 116, 114, 121, 32, 100, 105, 114, 101, 99, 116, 105, 111, 110, 32, 100, 105, 115, 116, 114, 105, 99, 116, 32, 102, 108, 111, 111, 114, 32, 108, 97, 110, 100, 109, 97, 114, 107, 32, 108, 111, 99, 97, 108, 105, 116, 121, 32, 110, 97, 109, 101, 32, 110, 117, 109, 98, 101, 114, 32, 112, 111, 115, 116, 79, 102, 102, 105, 99, 101, 66, 111, 120, 32, 112, 111, 115, 116, 99, 111, 100, 101, 32, 114, 101, 103, 105, 111, 110, 32, 114, 111, 111, 109, 32, 115, 101, 112, 97, 114, 97, 116, 111, 114, 32, 115, 117, 98, 100, 105, 115, 116, 114, 105, 99, 116], true, .mk #[]), (.mk #[118, 97, 108, 117, 101], 1, .mk #[], true, .mk #[])] : List Prp)
def T_Anniversary : List Prp := ([(.mk #[100, 97, 116, 101], 18, .mk #[], true, .mk #[]), (.mk #[107, 105, 110, 100], 11, .mk #[98, 105, 114, 116, 104, 32, 100, 101, 97, 116, 104, 32, 119, 101, 100, 100, 105, 110, 103], true, .mk #[])] : List Prp)
def T_EmailAddress : List Prp := ([(.mk #[97, 100, 100, 114, 101, 115, 115], 1, .mk #[], true, .mk #[]), (.mk #[99, 111, 110, 116, 101, 120, 116, 115], 17, .mk #[112, 114, 105, 118, 97, 116, 101, 32, 119, 111, 114, 107], false, .mk #[]), (.mk #[108, 97, 98, 101, 108], 1, .mk #[], false, .mk #[]), (.mk #[112, 114, 101, 102], 5, .mk #[], false, .mk #[])] : List Prp)
def T_LanguagePref : List Prp := ([(.mk #[99, 111, 110, 116, 101, 120, 116, 115], 17, .mk #[112, 114, 105, 118, 97, 116, 101, 32, 119, 111, 114, 107], false, .mk #[]), (.mk #[108, 97, 110, 103, 117, 97, 103, 101], 10, .mk #[], true, .mk #[]), (.mk #[112, 114, 101, 102], 5, .mk #[], false, .mk #[])] : List Prp)
def T_Link : List Prp := ([(.mk #[99, 111, 110, 116, 101, 120, 116, 115], 17, .mk #[112, 114, 105, 118, 97, 116, 101, 32, 119, 111, 114, 107], false, .mk #[]), (.mk #[107, 105, 110, 100], 11, .mk #[99, 111, 110, 116, 97, 99, 116], false, .mk #[]), (.mk #[108, 97, 98, 101, 108], 1, .mk #[], false, .mk #[]), (.mk #[109, 101, 100, 105, 97, 84, 121, 112, 101], 9, .mk #[], false, .mk #[]), (.mk #[112, 114, 101, 102], 5, .mk #[], false, .mk #[]), (.mk #[117, 114, 105], 8, .mk #[], true, .mk #[])] : List Prp)
def T_Media : List Prp := ([(.mk #[99, 111, 110, 116, 101, 120, 116, 115], 17, .mk #[112, 114, 105, 118, 97, 116, 101, 32, 119, 111, 114, 107], false, .mk #[]), (.mk #[107, 105, 110, 100], 11, .mk #[108, 111, 103, 111, 32, 112, 104, 111, 116, 111, 32, 115, 111, 117, 110, 100], true, .mk #[]), (.mk #[108, 97, 98, 101, 108], 1, .mk #[], false, .mk #[]), (.mk #[109, 101, 100, 105, 97, 84, 121, 112, 101], 9, .mk #[], false, .mk #[]), (.mk #[112, 114, 101, 102], 5, .mk #[], false, .mk #[]), (.mk #[117, 114, 105], 8, .mk #[], true, .mk #[])] : List Prp)
def T_Name : List Prp := ([(.mk #[99, 111, 109, 112, 111, 110, 101, 110, 116, 115], 13, .mk #[78, 97, 109, 101, 67, 111, 109, 112, 111, 110, 101, 110, 116], false, .mk #[]), (.mk #[100, 101, 102, 97, 117, 108, 116, 83, 101, 112, 97, 114, 97, 116, 111, 114], 1, .mk #[], false, .mk #[]), (.mk #[102, 117, 108, 108], 1, .mk #[], false, .mk #[]), (.mk #[105, 115, 79, 114, 100, 101, 114, 101, 100], 3, .mk #[], false, .mk #[102, 97, 108, 115, 101])] : List Prp)
def T_NameComponent : List Prp := ([(.mk #[107, 105, 110, 100], 11, .mk #[99, 114, 101, 100, 101, 110, 116, 105, 97, 108, 32, 103, 101, 110, 101, 114, 97, 116, 105, 111, 110, 32, 103, 105, 118, 101, 110, 32, 103, 105, 118, 101, 110, 50, 32, 115, 101, 112, 97, 114, 97, 116, 111, 114, 32, 115, 117, 114, 110, 97, 109, 101, 32, 115, 117, 114, 110, 97, 109, 101, 50, 32, 116, 105, 116, 108, 101], true, .mk #[]), (.mk #[118, 97, 108, 117, 101], 1, .mk #[], true, .mk #[])] : List Prp)
def T_Nickname : List Prp := ([(.mk #[99, 111, 110, 116, 101, 120, 116, 115], 17, .mk #[112, 114, 105, 118, 97, 116, 101, 32, 119, 111, 114, 107], false, .mk #[]), (.mk #[110, 97, 109, 101], 1, .mk #[], true, .mk #[]), (.mk #[112, 114, 101, 102], 5, .mk #[], false, .mk #[])] : List Prp)
def T_Note : List Prp := ([(.mk #[99, 114, 101, 97, 116, 101, 100], 7, .mk #[], false, .mk #[]), (.mk #[110, 111, 116, 101], 1, .mk #[], true, .mk #[])] : List Prp)
def T_OnlineService : List Prp := ([(.mk #[99, 111, 110, 116, 101, 120, 116, 115], 17, .mk #[112, 114, 105, 118, 97, 116, 101, 32, 119, 111, 114, 107], false, .mk #[]), (.mk #[108, 97, 98, 101, 108], 1, .mk #[], false, .mk #[]), (.mk #[112, 114, 101, 102], 5, .mk #[], false, .mk #[]), (.mk #[115, 101, 114, 118, 105, 99, 101], 1, .mk #[], false, .mk #[]), (.mk #[117, 114, 105], 8, .mk #[], false, .mk #[]), (.mk #[117, 115, 101, 114], 1, .mk #[], false, .mk #[])] : List Prp)
def T_OrgUnit : List Prp := ([(.mk #[110, 97, 109, 101], 1, .mk #[], true, .mk #[]), (.mk #[115, 111, 114, 116, 65, 115], 1, .mk #[], false, .mk #[])] : List Prp)
def T_Organization : List Prp := ([(.mk #[99, 111, 110, 116, 101, 120, 116, 115], 17, .mk #[112, 114, 105, 118, 97, 116, 101, 32, 119, 111, 114, 107], false, .mk #[]), (.mk #[110, 97, 109, 101], 1, .mk #[], false, .mk #[]), (.mk #[115, 111, 114, 116, 65, 115], 1, .mk #[], false, .mk #[]), (.mk #[117, 110, 105, 116, 115], 13, .mk #[79, 114, 103, 85, 110, 105, 116], false, .mk #[])] : List Prp)
def T_PartialDate : List Prp := ([(.mk #[100, 97, 121], 4, .mk #[], false, .mk #[]), (.mk #[109, 111, 110, 116, 104], 4, .mk #[], false, .mk #[]), (.mk #[121, 101, 97, 114], 4, .mk #[], false, .mk #[])] : List Prp)
def T_Phone : List Prp := ([(.mk #[99, 111, 110, 116, 101, 120, 116, 115], 17, .mk #[112, 114, 105, 118, 97, 116, 101, 32, 119, 111, 114, 107], false, .mk #[]), (.mk #[102, 101, 97, 116, 117, 114, 101, 115], 17, .mk #[102, 97, 120, 32, 109, 97, 105, 110, 45, 110, 117, 109, 98, 101, 114, 32, 109, 111, 98, 105, 108, 101, 32, 112, 97, 103, 101, 114, 32, 116, 101, 120, 116, 32, 116, 101, 120, 116, 112, 104, 111, 110, 101, 32, 118, 105, 100, 101, 111, 32, 118, 111, 105, 99, 101], false, .mk #[]), (.mk #[108, 97, 98, 101, 108], 1, .mk #[], false, .mk #[]), (.mk #[110, 117, 109, 98, 101, 114], 1, .mk #[], true, .mk #[]), (.mk #[112, 114, 101, 102], 5, .mk #[], false, .mk #[])] : List Prp)
def T_Relation : List Prp := ([(.mk #[114, 101, 108, 97, 116, 105, 111, 110], 17, .mk #[97, 99, 113, 117, 97, 105, 110, 116, 97, 110, 99, 101, 32, 97, 103, 101, 110, 116, 32, 99, 104, 105, 108, 100, 32, 99, 111, 45, 114, 101, 115, 105, 100, 101, 110, 116, 32, 99, 111, 45, 119, 111, 114, 107, 101, 114, 32, 99, 111, 108, 108, 101, 97, 103, 117, 101, 32, 99, 111, 110, 116, 97, 99, 116, 32, 99, 114, 117, 115, 104, 32, 100, 97, 116, 101, 32, 101, 109, 101, 114, 103, 101, 110, 99, 121, 32, 102, 114, 105, 101, 110, 100, 32, 107, 105, 110, 32, 109, 101, 32, 109, 101, 116, 32, 109, 117, 115, 101, 32, 110, 101, 105, 103, 104, 98, 111, 114, 32, 112, 97, 114, 101, 110, 116, 32, 115, 105, 98, 108, 105, 110, 103, 32, 115, 112, 111, 117, 115, 101, 32, 115, 119, 101, 101, 116, 104, 101, 97, 114, 116], false, .mk #[])] : List Prp)
def T_Timestamp : List Prp := ([(.mk #[117, 116, 99], 7, .mk #[], true, .mk #[])] : List Prp)
def T_Title : List Prp := ([(.mk #[107, 105, 110, 100], 11, .mk #[114, 111, 108, 101, 32, 116, 105, 116, 108, 101], false, .mk #[116, 105, 116, 108, 101]), (.mk #[110, 97, 109, 101], 1, .mk #[], true, .mk #[]), (.mk #[111, 114, 103, 97, 110, 105, 122, 97, 116, 105, 111, 110, 73, 100], 6, .mk #[], false, .mk #[])] : List Prp)
set_option maxRecDepth 100000 in
set_option maxHeartbeats 8000000 in
theorem parts_AddressComponent (W : World) : Calls Tryd.prog 43 #[.string ⟨#[65, 100, 100, 114, 101, 115, 115, 67, 111, 109, 112, 111, 110, 101, 110, 116]⟩] W (PropsPost W.heap.size W 4 ([(.mk #[99, 111, 109, 112, 111, 110, 101, 110, 116, 115], 13, .mk #[65, 100, 100, 114, 101, 115, 115, 67, 111, 109, 112, 111, 110, 101, 110, 116], false, .mk #[]), (.mk #[100, 101, 102, 97, 117, 108, 116, 83, 101, 112, 97, 114, 97, 116, 111, 114], 1, .mk #[], false, .mk #[]), (.mk #[102, 117, 108, 108], 1, .mk #[], false, .mk #[]), (.mk #[105, 115, 79, 114, 100, 101, 114, 101, 100], 3, .mk #[], false, .mk #[102, 97, 108, 115, 101])] : List Prp)) := by
  have B0 := Lib.hid (Below.refl W.heap.size W)
  have g0 := Nat.le_refl W.heap.size
  go_enter Tryd.func43, Tryd.ntmps43
  go_wp2_with fail
  refine (pw_17 _).mono ?_
  rintro e w1 ⟨rfl, hb1⟩
  have B1 := Lib.hid (B0.out.trans (hb1.mono g0))
  have g1 := Nat.le_trans g0 hb1.size
  clear hb1 B0 g0
  go_wp2_with fail
  refine (p_none ⟨#[100, 101, 102, 97, 117, 108, 116, 83, 101, 112, 97, 114, 97, 116, 111, 114]⟩ 1 _).mono ?_
  rintro e w2 ⟨rfl, hb1⟩
  have B2 := Lib.hid (B1.out.trans (hb1.mono g1))
  have g2 := Nat.le_trans g1 hb1.size
  clear hb1 B1 g1
  go_wp2_with fail
  refine (p_none ⟨#[102, 117, 108, 108]⟩ 1 _).mono ?_
  rintro e w3 ⟨rfl, hb1⟩
  have B3 := Lib.hid (B2.out.trans (hb1.mono g2))
  have g3 := Nat.le_trans g2 hb1.size
  clear hb1 B2 g2
  go_wp2_with fail
  refine (p_none ⟨#[105, 115, 79, 114, 100, 101, 114, 101, 100]⟩ 3 _).mono ?_
  rintro e w4 ⟨rfl, hb1⟩
  have B4 := Lib.hid (B3.out.trans (hb1.mono g3))
  have g4 := Nat.le_trans g3 hb1.size
  clear hb1 B3 g3
  go_wp2_with fail
  refine (or_any ⟨#[105, 115, 79, 114, 100, 101, 114, 101, 100]⟩ ⟨#[]⟩ ⟨#[]⟩ ⟨#[102, 97, 108, 115, 101]⟩ 3 false _).mono ?_
  rintro e w5 ⟨rfl, hb1⟩
  have B5 := Lib.hid (B4.out.trans (hb1.mono g4))
  have g5 := Nat.le_trans g4 hb1.size
  clear hb1 B4 g4
  have ho : (w5.alloc (.cells #[.string ⟨#[99, 111, 109, 112, 111, 110, 101, 110, 116, 115]⟩, .int .i64 13, .string ⟨#[65, 100, 100, 114, 101, 115, 115, 67, 111, 109, 112, 111, 110, 101, 110, 116]⟩, .bool false, .string ⟨#[]⟩, .string ⟨#[100, 101, 102, 97, 117, 108, 116, 83, 101, 112, 97, 114, 97, 116, 111, 114]⟩, .int .i64 1, .string ⟨#[]⟩, .bool false, .string ⟨#[]⟩, .string ⟨#[102, 117, 108, 108]⟩, .int .i64 1, .string ⟨#[]⟩, .bool false, .string ⟨#[]⟩, .string ⟨#[105, 115, 79, 114, 100, 101, 114, 101, 100]⟩, .int .i64 3, .string ⟨#[]⟩, .bool false, .string ⟨#[102, 97, 108, 115, 101]⟩] 41)).ownsRow W.heap.size 41 5 (.slice (some ⟨w5.heap.size, 0, none⟩) 4 4) 4 (cellsP ([(.mk #[99, 111, 109, 112, 111, 110, 101, 110, 116, 115], 13, .mk #[65, 100, 100, 114, 101, 115, 115, 67, 111, 109, 112, 111, 110, 101, 110, 116], false, .mk #[]), (.mk #[100, 101, 102, 97, 117, 108, 116, 83, 101, 112, 97, 114, 97, 116, 111, 114], 1, .mk #[], false, .mk #[]), (.mk #[102, 117, 108, 108], 1, .mk #[], false, .mk #[]), (.mk #[105, 115, 79, 114, 100, 101, 114, 101, 100], 3, .mk #[], false, .mk #[102, 97, 108, 115, 101])] : List Prp)) := World.ownsRow_lit w5 #[.string ⟨#[99, 111, 109, 112, 111, 110, 101, 110, 116, 115]⟩, .int .i64 13, .string ⟨#[65, 100, 100, 114, 101, 115, 115, 67, 111, 109, 112, 111, 110, 101, 110, 116]⟩, .bool false, .string ⟨#[]⟩, .string ⟨#[100, 101, 102, 97, 117, 108, 116, 83, 101, 112, 97, 114, 97, 116, 111, 114]⟩, .int .i64 1, .string ⟨#[]⟩, .bool false, .string ⟨#[]⟩, .string ⟨#[102, 117, 108, 108]⟩, .int .i64 1, .string ⟨#[]⟩, .bool false, .string ⟨#[]⟩, .string ⟨#[105, 115, 79, 114, 100, 101, 114, 101, 100]⟩, .int .i64 3, .string ⟨#[]⟩, .bool false, .string ⟨#[102, 97, 108, 115, 101]⟩] 4 g5 (by decide) rfl
  have Ho := Lib.hid ho
  clear ho
  have HB := Lib.hid (B5.out.alloc g5 (.cells #[.string ⟨#[99, 111, 109, 112, 111, 110, 101, 110, 116, 115]⟩, .int .i64 13, .string ⟨#[65, 100, 100, 114, 101, 115, 115, 67, 111, 109, 112, 111, 110, 101, 110, 116]⟩, .bool false, .string ⟨#[]⟩, .string ⟨#[100, 101, 102, 97, 117, 108, 116, 83, 101, 112, 97, 114, 97, 116, 111, 114]⟩, .int .i64 1, .string ⟨#[]⟩, .bool false, .string ⟨#[]⟩, .string ⟨#[102, 117, 108, 108]⟩, .int .i64 1, .string ⟨#[]⟩, .bool false, .string ⟨#[]⟩, .string ⟨#[105, 115, 79, 114, 100, 101, 114, 101, 100]⟩, .int .i64 3, .string ⟨#[]⟩, .bool false, .string ⟨#[102, 97, 108, 115, 101]⟩] 41))
  go_wp2_with fail
  go_ret
  exact ⟨_, _, rfl, Ho.out, HB.out⟩
set_option maxRecDepth 100000 in
set_option maxHeartbeats 8000000 in
theorem parts_NameComponent (W : World) : Calls Tryd.prog 43 #[.string ⟨#[78, 97, 109, 101, 67, 111, 109, 112, 111, 110, 101, 110, 116]⟩] W (PropsPost W.heap.size W 4 ([(.mk #[99, 111, 109, 112, 111, 110, 101, 110, 116, 115], 13, .mk #[78, 97, 109, 101, 67, 111, 109, 112, 111, 110, 101, 110, 116], false, .mk #[]), (.mk #[100, 101, 102, 97, 117, 108, 116, 83, 101, 112, 97, 114, 97, 116, 111, 114], 1, .mk #[], false, .mk #[]), (.mk #[102, 117, 108, 108], 1, .mk #[], false, .mk #[]), (.mk #[105, 115, 79, 114, 100, 101, 114, 101, 100], 3, .mk #[], false, .mk #[102, 97, 108, 115, 101])] : List Prp)) := by
  have B0 := Lib.hid (Below.refl W.heap.size W)
  have g0 := Nat.le_refl W.heap.size
  go_enter Tryd.func43, Tryd.ntmps43
  go_wp2_with fail
  refine (pw_18 _).mono ?_
  rintro e w1 ⟨rfl, hb1⟩
  have B1 := Lib.hid (B0.out.trans (hb1.mono g0))
  have g1 := Nat.le_trans g0 hb1.size
  clear hb1 B0 g0
  go_wp2_with fail
  refine (p_none ⟨#[100, 101, 102, 97, 117, 108, 116, 83, 101, 112, 97, 114, 97, 116, 111, 114]⟩ 1 _).mono ?_
  rintro e w2 ⟨rfl, hb1⟩
  have B2 := Lib.hid (B1.out.trans (hb1.mono g1))
  have g2 := Nat.le_trans g1 hb1.size
  clear hb1 B1 g1
  go_wp2_with fail
  refine (p_none ⟨#[102, 117, 108, 108]⟩ 1 _).mono ?_
  rintro e w3 ⟨rfl, hb1⟩
  have B3 := Lib.hid (B2.out.trans (hb1.mono g2))
  have g3 := Nat.le_trans g2 hb1.size
  clear hb1 B2 g2
  go_wp2_with fail
  refine (p_none ⟨#[105, 115, 79, 114, 100, 101, 114, 101, 100]⟩ 3 _).mono ?_
  rintro e w4 ⟨rfl, hb1⟩
  have B4 := Lib.hid (B3.out.trans (hb1.mono g3))
  have g4 := Nat.le_trans g3 hb1.size
  clear hb1 B3 g3
  go_wp2_with fail
  refine (or_any ⟨#[105, 115, 79, 114, 100, 101, 114, 101, 100]⟩ ⟨#[]⟩ ⟨#[]⟩ ⟨#[102, 97, 108, 115, 101]⟩ 3 false _).mono ?_
  rintro e w5 ⟨rfl, hb1⟩
  have B5 := Lib.hid (B4.out.trans (hb1.mono g4))
  have g5 := Nat.le_trans g4 hb1.size
  clear hb1 B4 g4
  have ho : (w5.alloc (.cells #[.string ⟨#[99, 111, 109, 112, 111, 110, 101, 110, 116, 115]⟩, .int .i64 13, .string ⟨#[78, 97, 109, 101, 67, 111, 109, 112, 111, 110, 101, 110, 116]⟩, .bool false, .string ⟨#[]⟩, .string ⟨#[100, 101, 102, 97, 117, 108, 116, 83, 101, 112, 97, 114, 97, 116, 111, 114]⟩, .int .i64 1, .string ⟨#[]⟩, .bool false, .string ⟨#[]⟩, .string ⟨#[102, 117, 108, 108]⟩, .int .i64 1, .string ⟨#[]⟩, .bool false, .string ⟨#[]⟩, .string ⟨#[105, 115, 79, 114, 100, 101, 114, 101, 100]⟩, .int .i64 3, .string ⟨#[]⟩, .bool false, .string ⟨#[102, 97, 108, 115, 101]⟩] 41)).ownsRow W.heap.size 41 5 (.slice (some ⟨w5.heap.size, 0, none⟩) 4 4) 4 (cellsP ([(.mk #[99, 111, 109, 112, 111, 110, 101, 110, 116, 115], 13, .mk #[78, 97, 109, 101, 67, 111, 109, 112, 111, 110, 101, 110, 116], false, .mk #[]), (.mk #[100, 101, 102, 97, 117, 108, 116, 83, 101, 112, 97, 114, 97, 116, 111, 114], 1, .mk #[], false, .mk #[]), (.mk #[102, 117, 108, 108], 1, .mk #[], false, .mk #[]), (.mk #[105, 115, 79, 114, 100, 101, 114, 101, 100], 3, .mk #[], false, .mk #[102, 97, 108, 115, 101])] : List Prp)) := World.ownsRow_lit w5 #[.string ⟨#[99, 111, 109, 112, 111, 110, 101, 110, 116, 115]⟩, .int .i64 13, .string ⟨#[78, 97, 109, 101, 67, 111, 109, 112, 111, 110, 101, 110, 116]⟩, .bool false, .string ⟨#[]⟩, .string ⟨#[100, 101, 102, 97, 117, 108, 116, 83, 101, 112, 97, 114, 97, 116, 111, 114]⟩, .int .i64 1, .string ⟨#[]⟩, .bool false, .string ⟨#[]⟩, .string ⟨#[102, 117, 108, 108]⟩, .int .i64 1, .string ⟨#[]⟩, .bool false, .string ⟨#[]⟩, .string ⟨#[105, 115, 79, 114, 100, 101, 114, 101, 100]⟩, .int .i64 3, .string ⟨#[]⟩, .bool false, .string ⟨#[102, 97, 108, 115, 101]⟩] 4 g5 (by decide) rfl
  have Ho := Lib.hid ho
  clear ho
  have HB := Lib.hid (B5.out.alloc g5 (.cells #[.string ⟨#[99, 111, 109, 112, 111, 110, 101, 110, 116, 115]⟩, .int .i64 13, .string ⟨#[78, 97, 109, 101, 67, 111, 109, 112, 111, 110, 101, 110, 116]⟩, .bool false, .string ⟨#[]⟩, .string ⟨#[100, 101, 102, 97, 117, 108, 116, 83, 101, 112, 97, 114, 97, 116, 111, 114]⟩, .int .i64 1, .string ⟨#[]⟩, .bool false, .string ⟨#[]⟩, .string ⟨#[102, 117, 108, 108]⟩, .int .i64 1, .string ⟨#[]⟩, .bool false, .string ⟨#[]⟩, .string ⟨#[105, 115, 79, 114, 100, 101, 114, 101, 100]⟩, .int .i64 3, .string ⟨#[]⟩, .bool false, .string ⟨#[102, 97, 108, 115, 101]⟩] 41))
  go_wp2_with fail
  go_ret
  exact ⟨_, _, rfl, Ho.out, HB.out⟩
set_option maxRecDepth 100000 in
set_option maxHeartbeats 8000000 in
theorem part_any (b n : Nat) (xs : List ByteArray) (J : ByteArray) (hJ : wordsF xs = J) (W : World) (hn : xs.length = n) (hcells : ∀ (j : Nat) x, xs[j]? = some x → W.cell? ⟨b, 0 + j, none⟩ = some (.string x)) (hb : b < W.heap.size) (hN : n ≤ 1000) (hlen : J.size ≤ 100000) : Calls Tryd.prog 39 #[.slice (some ⟨b, 0, none⟩) n n] W (PropsPost W.heap.size W 2 ([(.mk #[107, 105, 110, 100], 11, J, true, .mk #[]), (.mk #[118, 97, 108, 117, 101], 1, .mk #[], true, .mk #[])] : List Prp)) := by
  have B0 := Lib.hid (Below.refl W.heap.size W)
  have g0 := Nat.le_refl W.heap.size
  have HP := Lib.hid (p_at ⟨#[107, 105, 110, 100]⟩ 11 b n n xs J hJ W hn (Nat.le_refl _) hcells hb hN hlen)
  clear hcells
  go_enter Tryd.func39, Tryd.ntmps39
  go_wp2_with fail
  refine HP.out.mono ?_
  rintro e w1 ⟨rfl, hb1⟩
  have B1 := Lib.hid (B0.out.trans (hb1.mono g0))
  have g1 := Nat.le_trans g0 hb1.size
  clear hb1 B0 g0
  go_wp2_with fail
  refine (must_any ⟨#[107, 105, 110, 100]⟩ J ⟨#[]⟩ 11 false _).mono ?_
  rintro e w2 ⟨rfl, hb1⟩
  have B2 := Lib.hid (B1.out.trans (hb1.mono g1))
  have g2 := Nat.le_trans g1 hb1.size
  clear hb1 B1 g1
  go_wp2_with fail
  refine (p_none ⟨#[118, 97, 108, 117, 101]⟩ 1 _).mono ?_
  rintro e w3 ⟨rfl, hb1⟩
  have B3 := Lib.hid (B2.out.trans (hb1.mono g2))
  have g3 := Nat.le_trans g2 hb1.size
  clear hb1 B2 g2
  go_wp2_with fail
  refine (must_any ⟨#[118, 97, 108, 117, 101]⟩ ⟨#[]⟩ ⟨#[]⟩ 1 false _).mono ?_
  rintro e w4 ⟨rfl, hb1⟩
  have B4 := Lib.hid (B3.out.trans (hb1.mono g3))
  have g4 := Nat.le_trans g3 hb1.size
  clear hb1 B3 g3
  have ho : (w4.alloc (.cells #[.string ⟨#[107, 105, 110, 100]⟩, .int .i64 11, .string J, .bool true, .string ⟨#[]⟩, .string ⟨#[118, 97, 108, 117, 101]⟩, .int .i64 1, .string ⟨#[]⟩, .bool true, .string ⟨#[]⟩] 41)).ownsRow W.heap.size 41 5 (.slice (some ⟨w4.heap.size, 0, none⟩) 2 2) 2 (cellsP ([(.mk #[107, 105, 110, 100], 11, J, true, .mk #[]), (.mk #[118, 97, 108, 117, 101], 1, .mk #[], true, .mk #[])] : List Prp)) := World.ownsRow_lit w4 #[.string ⟨#[107, 105, 110, 100]⟩, .int .i64 11, .string J, .bool true, .string ⟨#[]⟩, .string ⟨#[118, 97, 108, 117, 101]⟩, .int .i64 1, .string ⟨#[]⟩, .bool true, .string ⟨#[]⟩] 2 g4 (by decide) rfl
  have Ho := Lib.hid ho
  clear ho
  have HB := Lib.hid (B4.out.alloc g4 (.cells #[.string ⟨#[107, 105, 110, 100]⟩, .int .i64 11, .string J, .bool true, .string ⟨#[]⟩, .string ⟨#[118, 97, 108, 117, 101]⟩, .int .i64 1, .string ⟨#[]⟩, .bool true, .string ⟨#[]⟩] 41))
  go_wp2_with fail
  go_ret
  exact ⟨_, _, rfl, Ho.out, HB.out⟩
set_option maxRecDepth 100000 in
set_option maxHeartbeats 8000000 in
theorem address_any (W : World) : Calls Tryd.prog 38 #[] W (PropsPost W.heap.size W 9 T_Address) := by
  have B0 := Lib.hid (Below.refl W.heap.size W)
  have g0 := Nat.le_refl W.heap.size
  obtain ⟨i0, hi0, hi1, hi2, hi3⟩ := info_parts infoP
  go_enter Tryd.func38, Tryd.ntmps38
  go_wp2_with fail
  refine (parts_AddressComponent _).mono ?_
  rintro e w1 ⟨Ap, cp, rfl, ho, hb1⟩
  obtain ⟨gp, rfl, hgp⟩ := own_some (by omega) ho
  have Hown := Lib.hid ho
  have B1 := Lib.hid hb1
  have g1 := hb1.size
  have HW1 := Lib.hid (rfl : w1 = w1)
  clear ho hb1 B0 g0
  have D1 := Lib.hid (Below.refl w1.heap.size w1)
  have q1 := Nat.le_refl w1.heap.size
  go_wp2_with fail
  refine (pw_16 _).mono ?_
  rintro e w2 ⟨rfl, hb1⟩
  have D2 := Lib.hid (D1.out.trans (hb1.mono q1))
  have q2 := Nat.le_trans q1 hb1.size
  clear hb1 D1 q1
  go_wp2_with fail
  refine (p_none ⟨#[99, 111, 111, 114, 100, 105, 110, 97, 116, 101, 115]⟩ 8 _).mono ?_
  rintro e w3 ⟨rfl, hb1⟩
  have D3 := Lib.hid (D2.out.trans (hb1.mono q2))
  have q3 := Nat.le_trans q2 hb1.size
  clear hb1 D2 q2
  go_wp2_with fail
  refine (p_none ⟨#[99, 111, 117, 110, 116, 114, 121, 67, 111, 100, 101]⟩ 1 _).mono ?_
  rintro e w4 ⟨rfl, hb1⟩
  have D4 := Lib.hid (D3.out.trans (hb1.mono q3))
  have q4 := Nat.le_trans q3 hb1.size
  clear hb1 D3 q3
  go_wp2_with fail
  refine (p_none ⟨#[112, 114, 101, 102]⟩ 5 _).mono ?_
  rintro e w5 ⟨rfl, hb1⟩
  have D5 := Lib.hid (D4.out.trans (hb1.mono q4))
  have q5 := Nat.le_trans q4 hb1.size
  clear hb1 D4 q4
  go_wp2_with fail
  refine (p_none ⟨#[116, 105, 109, 101, 90, 111, 110, 101]⟩ 1 _).mono ?_
  rintro e w6 ⟨rfl, hb1⟩
  have D6 := Lib.hid (D5.out.trans (hb1.mono q5))
  have q6 := Nat.le_trans q5 hb1.size
  clear hb1 D5 q5
  have HB := Lib.hid ((B1.out.trans (D6.out.mono g1)).alloc (Nat.le_trans g1 q6) (.cells #[.string ⟨#[99, 111, 110, 116, 101, 120, 116, 115]⟩, .int .i64 17, .string ⟨#[98, 105, 108, 108, 105, 110, 103, 32, 100, 101, 108, 105, 118, 101, 114, 121, 32, 112, 114, 105, 118, 97, 116, 101, 32, 119, 111, 114, 107]⟩, .bool false, .string ⟨#[]⟩, .string ⟨#[99, 111, 111, 114, 100, 105, 110, 97, 116, 101, 115]⟩, .int .i64 8, .string ⟨#[]⟩, .bool false, .string ⟨#[]⟩, .string ⟨#[99, 111, 117, 110, 116, 114, 121, 67, 111, 100, 101]⟩, .int .i64 1, .string ⟨#[]⟩, .bool false, .string ⟨#[]⟩, .string ⟨#[112, 114, 101, 102]⟩, .int .i64 5, .string ⟨#[]⟩, .bool false, .string ⟨#[]⟩, .string ⟨#[116, 105, 109, 101, 90, 111, 110, 101]⟩, .int .i64 1, .string ⟨#[]⟩, .bool false, .string ⟨#[]⟩] 41))
  have Hown1 := Lib.hid ((own_below Hown.out D6.out (Nat.le_refl _)).alloc (.cells #[.string ⟨#[99, 111, 110, 116, 101, 120, 116, 115]⟩, .int .i64 17, .string ⟨#[98, 105, 108, 108, 105, 110, 103, 32, 100, 101, 108, 105, 118, 101, 114, 121, 32, 112, 114, 105, 118, 97, 116, 101, 32, 119, 111, 114, 107]⟩, .bool false, .string ⟨#[]⟩, .string ⟨#[99, 111, 111, 114, 100, 105, 110, 97, 116, 101, 115]⟩, .int .i64 8, .string ⟨#[]⟩, .bool false, .string ⟨#[]⟩, .string ⟨#[99, 111, 117, 110, 116, 114, 121, 67, 111, 100, 101]⟩, .int .i64 1, .string ⟨#[]⟩, .bool false, .string ⟨#[]⟩, .string ⟨#[112, 114, 101, 102]⟩, .int .i64 5, .string ⟨#[]⟩, .bool false, .string ⟨#[]⟩, .string ⟨#[116, 105, 109, 101, 90, 111, 110, 101]⟩, .int .i64 1, .string ⟨#[]⟩, .bool false, .string ⟨#[]⟩] 41))
  have Hzz : Hid (W.heap.size ≤ (w6.alloc (.cells #[.string ⟨#[99, 111, 110, 116, 101, 120, 116, 115]⟩, .int .i64 17, .string ⟨#[98, 105, 108, 108, 105, 110, 103, 32, 100, 101, 108, 105, 118, 101, 114, 121, 32, 112, 114, 105, 118, 97, 116, 101, 32, 119, 111, 114, 107]⟩, .bool false, .string ⟨#[]⟩, .string ⟨#[99, 111, 111, 114, 100, 105, 110, 97, 116, 101, 115]⟩, .int .i64 8, .string ⟨#[]⟩, .bool false, .string ⟨#[]⟩, .string ⟨#[99, 111, 117, 110, 116, 114, 121, 67, 111, 100, 101]⟩, .int .i64 1, .string ⟨#[]⟩, .bool false, .string ⟨#[]⟩, .string ⟨#[112, 114, 101, 102]⟩, .int .i64 5, .string ⟨#[]⟩, .bool false, .string ⟨#[]⟩, .string ⟨#[116, 105, 109, 101, 90, 111, 110, 101]⟩, .int .i64 1, .string ⟨#[]⟩, .bool false, .string ⟨#[]⟩] 41)).heap.size) := Lib.hid (by simp; omega)
  go_wp2_with (at_builtin; refine wpList_append_own _ rfl _ _ 38 rfl W.heap.size 41 i0 _ 5 64 Tryd.underlying38 hi0 hi1 hi2 hi3 rfl (by decide) _ 4 _ rfl Hown1.out ⟨w6.heap.size, 0, none⟩ 5 5 (cellsP ([(.mk #[99, 111, 110, 116, 101, 120, 116, 115], 17, .mk #[98, 105, 108, 108, 105, 110, 103, 32, 100, 101, 108, 105, 118, 101, 114, 121, 32, 112, 114, 105, 118, 97, 116, 101, 32, 119, 111, 114, 107], false, .mk #[]), (.mk #[99, 111, 111, 114, 100, 105, 110, 97, 116, 101, 115], 8, .mk #[], false, .mk #[]), (.mk #[99, 111, 117, 110, 116, 114, 121, 67, 111, 100, 101], 1, .mk #[], false, .mk #[]), (.mk #[112, 114, 101, 102], 5, .mk #[], false, .mk #[]), (.mk #[116, 105, 109, 101, 90, 111, 110, 101], 1, .mk #[], false, .mk #[])] : List Prp)) rfl rfl ?c1 ?c2 ?c3 ?c4 Hzz.out ?_)
  case c1 =>
    intro j u hu
    rw [Addr.add_lit, Nat.zero_add]
    simp only [World.cell?_alloc_new]
    simpa [cellsP, encP] using hu
  case c2 => intro u hu; simp [cellsP, encP] at hu; repeat' (first | (rcases hu with rfl | hu <;> first | rfl | skip) | (subst hu; rfl))
  case c3 => first | omega | (simp only [maxLen]; omega)
  case c4 => omega
  intro v' wx hown2 hgrow _
  have hbx := Below.grown HB.out hgrow Hzz.out (fun k hk => by simp only [Value.ownBlock, Option.some.injEq] at hk; omega)
  obtain ⟨Ax, cx, rfl⟩ := own_form hown2
  obtain ⟨gx, rfl, hgx⟩ := own_some (by omega) hown2
  have hgx2 := own_lt hown2
  have HR := Lib.hid (rising_any W.heap.size gx cx 9 ([(.mk #[99, 111, 109, 112, 111, 110, 101, 110, 116, 115], 13, .mk #[65, 100, 100, 114, 101, 115, 115, 67, 111, 109, 112, 111, 110, 101, 110, 116], false, .mk #[]), (.mk #[100, 101, 102, 97, 117, 108, 116, 83, 101, 112, 97, 114, 97, 116, 111, 114], 1, .mk #[], false, .mk #[]), (.mk #[102, 117, 108, 108], 1, .mk #[], false, .mk #[]), (.mk #[105, 115, 79, 114, 100, 101, 114, 101, 100], 3, .mk #[], false, .mk #[102, 97, 108, 115, 101]), (.mk #[99, 111, 110, 116, 101, 120, 116, 115], 17, .mk #[98, 105, 108, 108, 105, 110, 103, 32, 100, 101, 108, 105, 118, 101, 114, 121, 32, 112, 114, 105, 118, 97, 116, 101, 32, 119, 111, 114, 107], false, .mk #[]), (.mk #[99, 111, 111, 114, 100, 105, 110, 97, 116, 101, 115], 8, .mk #[], false, .mk #[]), (.mk #[99, 111, 117, 110, 116, 114, 121, 67, 111, 100, 101], 1, .mk #[], false, .mk #[]), (.mk #[112, 114, 101, 102], 5, .mk #[], false, .mk #[]), (.mk #[116, 105, 109, 101, 90, 111, 110, 101], 1, .mk #[], false, .mk #[])] : List Prp) T_Address wx (by exact hown2) rfl (by decide +kernel) (by decide +kernel) hgx2 (by omega))
  clear hown2 hgrow
  have Hbx := Lib.hid hbx
  clear hbx
  go_wp2_with fail
  refine HR.out.mono ?_
  rintro e wy ⟨rfl, ho, hb⟩
  have Ho := Lib.hid ho
  have Hb := Lib.hid (Hbx.out.trans (hb.mono hgx))
  clear ho hb
  go_wp2_with fail
  go_ret
  exact ⟨_, _, rfl, Ho.out, Hb.out⟩
set_option maxRecDepth 100000 in
set_option maxHeartbeats 8000000 in
theorem card_any (W : World) : Calls Tryd.prog 37 #[] W (PropsPost W.heap.size W 23 T_Card) := by
  have B0 := Lib.hid (Below.refl W.heap.size W)
  have g0 := Nat.le_refl W.heap.size
  go_enter Tryd.func37, Tryd.ntmps37
  go_wp2_with fail
  refine (pw_0 _).mono ?_
  rintro e w1 ⟨rfl, hb1⟩
  have B1 := Lib.hid (B0.out.trans (hb1.mono g0))
  have g1 := Nat.le_trans g0 hb1.size
  clear hb1 B0 g0
  go_wp2_with fail
  refine (must_any ⟨#[118, 101, 114, 115, 105, 111, 110]⟩ ⟨#[49, 46, 48]⟩ ⟨#[]⟩ 11 false _).mono ?_
  rintro e w2 ⟨rfl, hb1⟩
  have B2 := Lib.hid (B1.out.trans (hb1.mono g1))
  have g2 := Nat.le_trans g1 hb1.size
  clear hb1 B1 g1
  go_wp2_with fail
  refine (p_none ⟨#[117, 105, 100]⟩ 2 _).mono ?_
  rintro e w3 ⟨rfl, hb1⟩
  have B3 := Lib.hid (B2.out.trans (hb1.mono g2))
  have g3 := Nat.le_trans g2 hb1.size
  clear hb1 B2 g2
  go_wp2_with fail
  refine (must_any ⟨#[117, 105, 100]⟩ ⟨#[]⟩ ⟨#[]⟩ 2 false _).mono ?_
  rintro e w4 ⟨rfl, hb1⟩
  have B4 := Lib.hid (B3.out.trans (hb1.mono g3))
  have g4 := Nat.le_trans g3 hb1.size
  clear hb1 B3 g3
  go_wp2_with fail
  refine (pw_1 _).mono ?_
  rintro e w5 ⟨rfl, hb1⟩
  have B5 := Lib.hid (B4.out.trans (hb1.mono g4))
  have g5 := Nat.le_trans g4 hb1.size
  clear hb1 B4 g4
  go_wp2_with fail
  refine (or_any ⟨#[107, 105, 110, 100]⟩ ⟨#[97, 112, 112, 108, 105, 99, 97, 116, 105, 111, 110, 32, 100, 101, 118, 105, 99, 101, 32, 103, 114, 111, 117, 112, 32, 105, 110, 100, 105, 118, 105, 100, 117, 97, 108, 32, 108, 111, 99, 97, 116, 105, 111, 110, 32, 111, 114, 103]⟩ ⟨#[]⟩ ⟨#[105, 110, 100, 105, 118, 105, 100, 117, 97, 108]⟩ 11 false _).mono ?_
  rintro e w6 ⟨rfl, hb1⟩
  have B6 := Lib.hid (B5.out.trans (hb1.mono g5))
  have g6 := Nat.le_trans g5 hb1.size
  clear hb1 B5 g5
  go_wp2_with fail
  refine (p_none ⟨#[99, 114, 101, 97, 116, 101, 100]⟩ 7 _).mono ?_
  rintro e w7 ⟨rfl, hb1⟩
  have B7 := Lib.hid (B6.out.trans (hb1.mono g6))
  have g7 := Nat.le_trans g6 hb1.size
  clear hb1 B6 g6
  go_wp2_with fail
  refine (p_none ⟨#[117, 112, 100, 97, 116, 101, 100]⟩ 7 _).mono ?_
  rintro e w8 ⟨rfl, hb1⟩
  have B8 := Lib.hid (B7.out.trans (hb1.mono g7))
  have g8 := Nat.le_trans g7 hb1.size
  clear hb1 B7 g7
  go_wp2_with fail
  refine (p_none ⟨#[108, 97, 110, 103, 117, 97, 103, 101]⟩ 10 _).mono ?_
  rintro e w9 ⟨rfl, hb1⟩
  have B9 := Lib.hid (B8.out.trans (hb1.mono g8))
  have g9 := Nat.le_trans g8 hb1.size
  clear hb1 B8 g8
  go_wp2_with fail
  refine (p_none ⟨#[112, 114, 111, 100, 73, 100]⟩ 1 _).mono ?_
  rintro e w10 ⟨rfl, hb1⟩
  have B10 := Lib.hid (B9.out.trans (hb1.mono g9))
  have g10 := Nat.le_trans g9 hb1.size
  clear hb1 B9 g9
  go_wp2_with fail
  refine (p_none ⟨#[109, 101, 109, 98, 101, 114, 115]⟩ 16 _).mono ?_
  rintro e w11 ⟨rfl, hb1⟩
  have B11 := Lib.hid (B10.out.trans (hb1.mono g10))
  have g11 := Nat.le_trans g10 hb1.size
  clear hb1 B10 g10
  go_wp2_with fail
  refine (p_none ⟨#[107, 101, 121, 119, 111, 114, 100, 115]⟩ 16 _).mono ?_
  rintro e w12 ⟨rfl, hb1⟩
  have B12 := Lib.hid (B11.out.trans (hb1.mono g11))
  have g12 := Nat.le_trans g11 hb1.size
  clear hb1 B11 g11
  go_wp2_with fail
  refine (pw_2 _).mono ?_
  rintro e w13 ⟨rfl, hb1⟩
  have B13 := Lib.hid (B12.out.trans (hb1.mono g12))
  have g13 := Nat.le_trans g12 hb1.size
  clear hb1 B12 g12
  go_wp2_with fail
  refine (pw_3 _).mono ?_
  rintro e w14 ⟨rfl, hb1⟩
  have B14 := Lib.hid (B13.out.trans (hb1.mono g13))
  have g14 := Nat.le_trans g13 hb1.size
  clear hb1 B13 g13
  go_wp2_with fail
  refine (pw_4 _).mono ?_
  rintro e w15 ⟨rfl, hb1⟩
  have B15 := Lib.hid (B14.out.trans (hb1.mono g14))
  have g15 := Nat.le_trans g14 hb1.size
  clear hb1 B14 g14
  go_wp2_with fail
  refine (pw_5 _).mono ?_
  rintro e w16 ⟨rfl, hb1⟩
  have B16 := Lib.hid (B15.out.trans (hb1.mono g15))
  have g16 := Nat.le_trans g15 hb1.size
  clear hb1 B15 g15
  go_wp2_with fail
  refine (pw_6 _).mono ?_
  rintro e w17 ⟨rfl, hb1⟩
  have B17 := Lib.hid (B16.out.trans (hb1.mono g16))
  have g17 := Nat.le_trans g16 hb1.size
  clear hb1 B16 g16
  go_wp2_with fail
  refine (pw_7 _).mono ?_
  rintro e w18 ⟨rfl, hb1⟩
  have B18 := Lib.hid (B17.out.trans (hb1.mono g17))
  have g18 := Nat.le_trans g17 hb1.size
  clear hb1 B17 g17
  go_wp2_with fail
  refine (pw_8 _).mono ?_
  rintro e w19 ⟨rfl, hb1⟩
  have B19 := Lib.hid (B18.out.trans (hb1.mono g18))
  have g19 := Nat.le_trans g18 hb1.size
  clear hb1 B18 g18
  go_wp2_with fail
  refine (pw_9 _).mono ?_
  rintro e w20 ⟨rfl, hb1⟩
  have B20 := Lib.hid (B19.out.trans (hb1.mono g19))
  have g20 := Nat.le_trans g19 hb1.size
  clear hb1 B19 g19
  go_wp2_with fail
  refine (pw_10 _).mono ?_
  rintro e w21 ⟨rfl, hb1⟩
  have B21 := Lib.hid (B20.out.trans (hb1.mono g20))
  have g21 := Nat.le_trans g20 hb1.size
  clear hb1 B20 g20
  go_wp2_with fail
  refine (pw_11 _).mono ?_
  rintro e w22 ⟨rfl, hb1⟩
  have B22 := Lib.hid (B21.out.trans (hb1.mono g21))
  have g22 := Nat.le_trans g21 hb1.size
  clear hb1 B21 g21
  go_wp2_with fail
  refine (pw_12 _).mono ?_
  rintro e w23 ⟨rfl, hb1⟩
  have B23 := Lib.hid (B22.out.trans (hb1.mono g22))
  have g23 := Nat.le_trans g22 hb1.size
  clear hb1 B22 g22
  go_wp2_with fail
  refine (pw_13 _).mono ?_
  rintro e w24 ⟨rfl, hb1⟩
  have B24 := Lib.hid (B23.out.trans (hb1.mono g23))
  have g24 := Nat.le_trans g23 hb1.size
  clear hb1 B23 g23
  go_wp2_with fail
  refine (pw_14 _).mono ?_
  rintro e w25 ⟨rfl, hb1⟩
  have B25 := Lib.hid (B24.out.trans (hb1.mono g24))
  have g25 := Nat.le_trans g24 hb1.size
  clear hb1 B24 g24
  go_wp2_with fail
  refine (pw_15 _).mono ?_
  rintro e w26 ⟨rfl, hb1⟩
  have B26 := Lib.hid (B25.out.trans (hb1.mono g25))
  have g26 := Nat.le_trans g25 hb1.size
  clear hb1 B25 g25
  have ho : (w26.alloc (.cells #[.string ⟨#[118, 101, 114, 115, 105, 111, 110]⟩, .int .i64 11, .string ⟨#[49, 46, 48]⟩, .bool true, .string ⟨#[]⟩, .string ⟨#[117, 105, 100]⟩, .int .i64 2, .string ⟨#[]⟩, .bool true, .string ⟨#[]⟩, .string ⟨#[107, 105, 110, 100]⟩, .int .i64 11, .string ⟨#[97, 112, 112, 108, 105, 99, 97, 116, 105, 111, 110, 32, 100, 101, 118, 105, 99, 101, 32, 103, 114, 111, 117, 112, 32, 105, 110, 100, 105, 118, 105, 100, 117, 97, 108, 32, 108, 111, 99, 97, 116, 105, 111, 110, 32, 111, 114, 103]⟩, .bool false, .string ⟨#[105, 110, 100, 105, 118, 105, 100, 117, 97, 108]⟩, .string ⟨#[99, 114, 101, 97, 116, 101, 100]⟩, .int .i64 7, .string ⟨#[]⟩, .bool false, .string ⟨#[]⟩, .string ⟨#[117, 112, 100, 97, 116, 101, 100]⟩, .int .i64 7, .string ⟨#[]⟩, .bool false, .string ⟨#[]⟩, .string ⟨#[108, 97, 110, 103, 117, 97, 103, 101]⟩, .int .i64 10, .string ⟨#[]⟩, .bool false, .string ⟨#[]⟩, .string ⟨#[112, 114, 111, 100, 73, 100]⟩, .int .i64 1, .string ⟨#[]⟩, .bool false, .string ⟨#[]⟩, .string ⟨#[109, 101, 109, 98, 101, 114, 115]⟩, .int .i64 16, .string ⟨#[]⟩, .bool false, .string ⟨#[]⟩, .string ⟨#[107, 101, 121, 119, 111, 114, 100, 115]⟩, .int .i64 16, .string ⟨#[]⟩, .bool false, .string ⟨#[]⟩, .string ⟨#[114, 101, 108, 97, 116, 101, 100, 84, 111]⟩, .int .i64 15, .string ⟨#[82, 101, 108, 97, 116, 105, 111, 110]⟩, .bool false, .string ⟨#[]⟩, .string ⟨#[110, 97, 109, 101]⟩, .int .i64 12, .string ⟨#[78, 97, 109, 101]⟩, .bool false, .string ⟨#[]⟩, .string ⟨#[110, 105, 99, 107, 110, 97, 109, 101, 115]⟩, .int .i64 14, .string ⟨#[78, 105, 99, 107, 110, 97, 109, 101]⟩, .bool false, .string ⟨#[]⟩, .string ⟨#[111, 114, 103, 97, 110, 105, 122, 97, 116, 105, 111, 110, 115]⟩, .int .i64 14, .string ⟨#[79, 114, 103, 97, 110, 105, 122, 97, 116, 105, 111, 110]⟩, .bool false, .string ⟨#[]⟩, .string ⟨#[116, 105, 116, 108, 101, 115]⟩, .int .i64 14, .string ⟨#[84, 105, 116, 108, 101]⟩, .bool false, .string ⟨#[]⟩, .string ⟨#[101, 109, 97, 105, 108, 115]⟩, .int .i64 14, .string ⟨#[69, 109, 97, 105, 108, 65, 100, 100, 114, 101, 115, 115]⟩, .bool false, .string ⟨#[]⟩, .string ⟨#[112, 104, 111, 110, 101, 115]⟩, .int .i64 14, .string ⟨#[80, 104, 111, 110, 101]⟩, .bool false, .string ⟨#[]⟩, .string ⟨#[111, 110, 108, 105, 110, 101, 83, 101, 114, 118, 105, 99, 101, 115]⟩, .int .i64 14, .string ⟨#[79, 110, 108, 105, 110, 101, 83, 101, 114, 118, 105, 99, 101]⟩, .bool false, .string ⟨#[]⟩, .string ⟨#[112, 114, 101, 102, 101, 114, 114, 101, 100, 76, 97, 110, 103, 117, 97, 103, 101, 115]⟩, .int .i64 14, .string ⟨#[76, 97, 110, 103, 117, 97, 103, 101, 80, 114, 101, 102]⟩, .bool false, .string ⟨#[]⟩, .string ⟨#[97, 100, 100, 114, 101, 115, 115, 101, 115]⟩, .int .i64 14, .string ⟨#[65, 100, 100, 114, 101, 115, 115]⟩, .bool false, .string ⟨#[]⟩, .string ⟨#[97, 110, 110, 105, 118, 101, 114, 115, 97, 114, 105, 101, 115]⟩, .int .i64 14, .string ⟨#[65, 110, 110, 105, 118, 101, 114, 115, 97, 114, 121]⟩, .bool false, .string ⟨#[]⟩, .string ⟨#[110, 111, 116, 101, 115]⟩, .int .i64 14, .string ⟨#[78, 111, 116, 101]⟩, .bool false, .string ⟨#[]⟩, .string ⟨#[108, 105, 110, 107, 115]⟩, .int .i64 14, .string ⟨#[76, 105, 110, 107]⟩, .bool false, .string ⟨#[]⟩, .string ⟨#[109, 101, 100, 105, 97]⟩, .int .i64 14, .string ⟨#[77, 101, 100, 105, 97]⟩, .bool false, .string ⟨#[]⟩] 41)).ownsRow w26.heap.size 41 5 (.slice (some ⟨w26.heap.size, 0, none⟩) 23 23) 23 (cellsP ([(.mk #[118, 101, 114, 115, 105, 111, 110], 11, .mk #[49, 46, 48], true, .mk #[]), (.mk #[117, 105, 100], 2, .mk #[], true, .mk #[]), (.mk #[107, 105, 110, 100], 11, .mk #[97, 112, 112, 108, 105, 99, 97, 116, 105, 111, 110, 32, 100, 101, 118, 105, 99, 101, 32, 103, 114, 111, 117, 112, 32, 105, 110, 100, 105, 118, 105, 100, 117, 97, 108, 32, 108, 111, 99, 97, 116, 105, 111, 110, 32, 111, 114, 103], false, .mk #[105, 110, 100, 105, 118, 105, 100, 117, 97, 108]), (.mk #[99, 114, 101, 97, 116, 101, 100], 7, .mk #[], false, .mk #[]), (.mk #[117, 112, 100, 97, 116, 101, 100], 7, .mk #[], false, .mk #[]), (.mk #[108, 97, 110, 103, 117, 97, 103, 101], 10, .mk #[], false, .mk #[]), (.mk #[112, 114, 111, 100, 73, 100], 1, .mk #[], false, .mk #[]), (.mk #[109, 101, 109, 98, 101, 114, 115], 16, .mk #[], false, .mk #[]), (.mk #[107, 101, 121, 119, 111, 114, 100, 115], 16, .mk #[], false, .mk #[]), (.mk #[114, 101, 108, 97, 116, 101, 100, 84, 111], 15, .mk #[82, 101, 108, 97, 116, 105, 111, 110], false, .mk #[]), (.mk #[110, 97, 109, 101], 12, .mk #[78, 97, 109, 101], false, .mk #[]), (.mk #[110, 105, 99, 107, 110, 97, 109, 101, 115], 14, .mk #[78, 105, 99, 107, 110, 97, 109, 101], false, .mk #[]), (.mk #[111, 114, 103, 97, 110, 105, 122, 97, 116, 105, 111, 110, 115], 14, .mk #[79, 114, 103, 97, 110, 105, 122, 97, 116, 105, 111, 110], false, .mk #[]), (.mk #[116, 105, 116, 108, 101, 115], 14, .mk #[84, 105, 116, 108, 101], false, .mk #[]), (.mk #[101, 109, 97, 105, 108, 115], 14, .mk #[69, 109, 97, 105, 108, 65, 100, 100, 114, 101, 115, 115], false, .mk #[]), (.mk #[112, 104, 111, 110, 101, 115], 14, .mk #[80, 104, 111, 110, 101], false, .mk #[]), (.mk #[111, 110, 108, 105, 110, 101, 83, 101, 114, 118, 105, 99, 101, 115], 14, .mk #[79, 110, 108, 105, 110, 101, 83, 101, 114, 118, 105, 99, 101], false, .mk #[]), (.mk #[112, 114, 101, 102, 101, 114, 114, 101, 100, 76, 97, 110, 103, 117, 97, 103, 101, 115], 14, .mk #[76, 97, 110, 103, 117, 97, 103, 101, 80, 114, 101, 102], false, .mk #[]), (.mk #[97, 100, 100, 114, 101, 115, 115, 101, 115], 14, .mk #[65, 100, 100, 114, 101, 115, 115], false, .mk #[]), (.mk #[97, 110, 110, 105, 118, 101, 114, 115, 97, 114, 105, 101, 115], 14, .mk #[65, 110, 110, 105, 118, 101, 114, 115, 97, 114, 121], false, .mk #[]), (.mk #[110, 111, 116, 101, 115], 14, .mk #[78, 111, 116, 101], false, .mk #[]), (.mk #[108, 105, 110, 107, 115], 14, .mk #[76, 105, 110, 107], false, .mk #[]), (.mk #[109, 101, 100, 105, 97], 14, .mk #[77, 101, 100, 105, 97], false, .mk #[])] : List Prp)) := World.ownsRow_lit w26 #[.string ⟨#[118, 101, 114, 115, 105, 111, 110]⟩, .int .i64 11, .string ⟨#[49, 46, 48]⟩, .bool true, .string ⟨#[]⟩, .string ⟨#[117, 105, 100]⟩, .int .i64 2, .string ⟨#[]⟩, .bool true, .string ⟨#[]⟩, .string ⟨#[107, 105, 110, 100]⟩, .int .i64 11, .string ⟨#[97, 112, 112, 108, 105, 99, 97, 116, 105, 111, 110, 32, 100, 101, 118, 105, 99, 101, 32, 103, 114, 111, 117, 112, 32, 105, 110, 100, 105, 118, 105, 100, 117, 97, 108, 32, 108, 111, 99, 97, 116, 105, 111, 110, 32, 111, 114, 103]⟩, .bool false, .string ⟨#[105, 110, 100, 105, 118, 105, 100, 117, 97, 108]⟩, .string ⟨#[99, 114, 101, 97, 116, 101, 100]⟩, .int .i64 7, .string ⟨#[]⟩, .bool false, .string ⟨#[]⟩, .string ⟨#[117, 112, 100, 97, 116, 101, 100]⟩, .int .i64 7, .string ⟨#[]⟩, .bool false, .string ⟨#[]⟩, .string ⟨#[108, 97, 110, 103, 117, 97, 103, 101]⟩, .int .i64 10, .string ⟨#[]⟩, .bool false, .string ⟨#[]⟩, .string ⟨#[112, 114, 111, 100, 73, 100]⟩, .int .i64 1, .string ⟨#[]⟩, .bool false, .string ⟨#[]⟩, .string ⟨#[109, 101, 109, 98, 101, 114, 115]⟩, .int .i64 16, .string ⟨#[]⟩, .bool false, .string ⟨#[]⟩, .string ⟨#[107, 101, 121, 119, 111, 114, 100, 115]⟩, .int .i64 16, .string ⟨#[]⟩, .bool false, .string ⟨#[]⟩, .string ⟨#[114, 101, 108, 97, 116, 101, 100, 84, 111]⟩, .int .i64 15, .string ⟨#[82, 101, 108, 97, 116, 105, 111, 110]⟩, .bool false, .string ⟨#[]⟩, .string ⟨#[110, 97, 109, 101]⟩, .int .i64 12, .string ⟨#[78, 97, 109, 101]⟩, .bool false, .string ⟨#[]⟩, .string ⟨#[110, 105, 99, 107, 110, 97, 109, 101, 115]⟩, .int .i64 14, .string ⟨#[78, 105, 99, 107, 110, 97, 109, 101]⟩, .bool false, .string ⟨#[]⟩, .string ⟨#[111, 114, 103, 97, 110, 105, 122, 97, 116, 105, 111, 110, 115]⟩, .int .i64 14, .string ⟨#[79, 114, 103, 97, 110, 105, 122, 97, 116, 105, 111, 110]⟩, .bool false, .string ⟨#[]⟩, .string ⟨#[116, 105, 116, 108, 101, 115]⟩, .int .i64 14, .string ⟨#[84, 105, 116, 108, 101]⟩, .bool false, .string ⟨#[]⟩, .string ⟨#[101, 109, 97, 105, 108, 115]⟩, .int .i64 14, .string ⟨#[69, 109, 97, 105, 108, 65, 100, 100, 114, 101, 115, 115]⟩, .bool false, .string ⟨#[]⟩, .string ⟨#[112, 104, 111, 110, 101, 115]⟩, .int .i64 14, .string ⟨#[80, 104, 111, 110, 101]⟩, .bool false, .string ⟨#[]⟩, .string ⟨#[111, 110, 108, 105, 110, 101, 83, 101, 114, 118, 105, 99, 101, 115]⟩, .int .i64 14, .string ⟨#[79, 110, 108, 105, 110, 101, 83, 101, 114, 118, 105, 99, 101]⟩, .bool false, .string ⟨#[]⟩, .string ⟨#[112, 114, 101, 102, 101, 114, 114, 101, 100, 76, 97, 110, 103, 117, 97, 103, 101, 115]⟩, .int .i64 14, .string ⟨#[76, 97, 110, 103, 117, 97, 103, 101, 80, 114, 101, 102]⟩, .bool false, .string ⟨#[]⟩, .string ⟨#[97, 100, 100, 114, 101, 115, 115, 101, 115]⟩, .int .i64 14, .string ⟨#[65, 100, 100, 114, 101, 115, 115]⟩, .bool false, .string ⟨#[]⟩, .string ⟨#[97, 110, 110, 105, 118, 101, 114, 115, 97, 114, 105, 101, 115]⟩, .int .i64 14, .string ⟨#[65, 110, 110, 105, 118, 101, 114, 115, 97, 114, 121]⟩, .bool false, .string ⟨#[]⟩, .string ⟨#[110, 111, 116, 101, 115]⟩, .int .i64 14, .string ⟨#[78, 111, 116, 101]⟩, .bool false, .string ⟨#[]⟩, .string ⟨#[108, 105, 110, 107, 115]⟩, .int .i64 14, .string ⟨#[76, 105, 110, 107]⟩, .bool false, .string ⟨#[]⟩, .string ⟨#[109, 101, 100, 105, 97]⟩, .int .i64 14, .string ⟨#[77, 101, 100, 105, 97]⟩, .bool false, .string ⟨#[]⟩] 23 (Nat.le_refl _) (by decide) rfl
  have HB := Lib.hid (B26.out.alloc g26 (.cells #[.string ⟨#[118, 101, 114, 115, 105, 111, 110]⟩, .int .i64 11, .string ⟨#[49, 46, 48]⟩, .bool true, .string ⟨#[]⟩, .string ⟨#[117, 105, 100]⟩, .int .i64 2, .string ⟨#[]⟩, .bool true, .string ⟨#[]⟩, .string ⟨#[107, 105, 110, 100]⟩, .int .i64 11, .string ⟨#[97, 112, 112, 108, 105, 99, 97, 116, 105, 111, 110, 32, 100, 101, 118, 105, 99, 101, 32, 103, 114, 111, 117, 112, 32, 105, 110, 100, 105, 118, 105, 100, 117, 97, 108, 32, 108, 111, 99, 97, 116, 105, 111, 110, 32, 111, 114, 103]⟩, .bool false, .string ⟨#[105, 110, 100, 105, 118, 105, 100, 117, 97, 108]⟩, .string ⟨#[99, 114, 101, 97, 116, 101, 100]⟩, .int .i64 7, .string ⟨#[]⟩, .bool false, .string ⟨#[]⟩, .string ⟨#[117, 112, 100, 97, 116, 101, 100]⟩, .int .i64 7, .string ⟨#[]⟩, .bool false, .string ⟨#[]⟩, .string ⟨#[108, 97, 110, 103, 117, 97, 103, 101]⟩, .int .i64 10, .string ⟨#[]⟩, .bool false, .string ⟨#[]⟩, .string ⟨#[112, 114, 111, 100, 73, 100]⟩, .int .i64 1, .string ⟨#[]⟩, .bool false, .string ⟨#[]⟩, .string ⟨#[109, 101, 109, 98, 101, 114, 115]⟩, .int .i64 16, .string ⟨#[]⟩, .bool false, .string ⟨#[]⟩, .string ⟨#[107, 101, 121, 119, 111, 114, 100, 115]⟩, .int .i64 16, .string ⟨#[]⟩, .bool false, .string ⟨#[]⟩, .string ⟨#[114, 101, 108, 97, 116, 101, 100, 84, 111]⟩, .int .i64 15, .string ⟨#[82, 101, 108, 97, 116, 105, 111, 110]⟩, .bool false, .string ⟨#[]⟩, .string ⟨#[110, 97, 109, 101]⟩, .int .i64 12, .string ⟨#[78, 97, 109, 101]⟩, .bool false, .string ⟨#[]⟩, .string ⟨#[110, 105, 99, 107, 110, 97, 109, 101, 115]⟩, .int .i64 14, .string ⟨#[78, 105, 99, 107, 110, 97, 109, 101]⟩, .bool false, .string ⟨#[]⟩, .string ⟨#[111, 114, 103, 97, 110, 105, 122, 97, 116, 105, 111, 110, 115]⟩, .int .i64 14, .string ⟨#[79, 114, 103, 97, 110, 105, 122, 97, 116, 105, 111, 110]⟩, .bool false, .string ⟨#[]⟩, .string ⟨#[116, 105, 116, 108, 101, 115]⟩, .int .i64 14, .string ⟨#[84, 105, 116, 108, 101]⟩, .bool false, .string ⟨#[]⟩, .string ⟨#[101, 109, 97, 105, 108, 115]⟩, .int .i64 14, .string ⟨#[69, 109, 97, 105, 108, 65, 100, 100, 114, 101, 115, 115]⟩, .bool false, .string ⟨#[]⟩, .string ⟨#[112, 104, 111, 110, 101, 115]⟩, .int .i64 14, .string ⟨#[80, 104, 111, 110, 101]⟩, .bool false, .string ⟨#[]⟩, .string ⟨#[111, 110, 108, 105, 110, 101, 83, 101, 114, 118, 105, 99, 101, 115]⟩, .int .i64 14, .string ⟨#[79, 110, 108, 105, 110, 101, 83, 101, 114, 118, 105, 99, 101]⟩, .bool false, .string ⟨#[]⟩, .string ⟨#[112, 114, 101, 102, 101, 114, 114, 101, 100, 76, 97, 110, 103, 117, 97, 103, 101, 115]⟩, .int .i64 14, .string ⟨#[76, 97, 110, 103, 117, 97, 103, 101, 80, 114, 101, 102]⟩, .bool false, .string ⟨#[]⟩, .string ⟨#[97, 100, 100, 114, 101, 115, 115, 101, 115]⟩, .int .i64 14, .string ⟨#[65, 100, 100, 114, 101, 115, 115]⟩, .bool false, .string ⟨#[]⟩, .string ⟨#[97, 110, 110, 105, 118, 101, 114, 115, 97, 114, 105, 101, 115]⟩, .int .i64 14, .string ⟨#[65, 110, 110, 105, 118, 101, 114, 115, 97, 114, 121]⟩, .bool false, .string ⟨#[]⟩, .string ⟨#[110, 111, 116, 101, 115]⟩, .int .i64 14, .string ⟨#[78, 111, 116, 101]⟩, .bool false, .string ⟨#[]⟩, .string ⟨#[108, 105, 110, 107, 115]⟩, .int .i64 14, .string ⟨#[76, 105, 110, 107]⟩, .bool false, .string ⟨#[]⟩, .string ⟨#[109, 101, 100, 105, 97]⟩, .int .i64 14, .string ⟨#[77, 101, 100, 105, 97]⟩, .bool false, .string ⟨#[]⟩] 41))
  have HU := Lib.hid (rising_any w26.heap.size w26.heap.size 23 23 ([(.mk #[118, 101, 114, 115, 105, 111, 110], 11, .mk #[49, 46, 48], true, .mk #[]), (.mk #[117, 105, 100], 2, .mk #[], true, .mk #[]), (.mk #[107, 105, 110, 100], 11, .mk #[97, 112, 112, 108, 105, 99, 97, 116, 105, 111, 110, 32, 100, 101, 118, 105, 99, 101, 32, 103, 114, 111, 117, 112, 32, 105, 110, 100, 105, 118, 105, 100, 117, 97, 108, 32, 108, 111, 99, 97, 116, 105, 111, 110, 32, 111, 114, 103], false, .mk #[105, 110, 100, 105, 118, 105, 100, 117, 97, 108]), (.mk #[99, 114, 101, 97, 116, 101, 100], 7, .mk #[], false, .mk #[]), (.mk #[117, 112, 100, 97, 116, 101, 100], 7, .mk #[], false, .mk #[]), (.mk #[108, 97, 110, 103, 117, 97, 103, 101], 10, .mk #[], false, .mk #[]), (.mk #[112, 114, 111, 100, 73, 100], 1, .mk #[], false, .mk #[]), (.mk #[109, 101, 109, 98, 101, 114, 115], 16, .mk #[], false, .mk #[]), (.mk #[107, 101, 121, 119, 111, 114, 100, 115], 16, .mk #[], false, .mk #[]), (.mk #[114, 101, 108, 97, 116, 101, 100, 84, 111], 15, .mk #[82, 101, 108, 97, 116, 105, 111, 110], false, .mk #[]), (.mk #[110, 97, 109, 101], 12, .mk #[78, 97, 109, 101], false, .mk #[]), (.mk #[110, 105, 99, 107, 110, 97, 109, 101, 115], 14, .mk #[78, 105, 99, 107, 110, 97, 109, 101], false, .mk #[]), (.mk #[111, 114, 103, 97, 110, 105, 122, 97, 116, 105, 111, 110, 115], 14, .mk #[79, 114, 103, 97, 110, 105, 122, 97, 116, 105, 111, 110], false, .mk #[]), (.mk #[116, 105, 116, 108, 101, 115], 14, .mk #[84, 105, 116, 108, 101], false, .mk #[]), (.mk #[101, 109, 97, 105, 108, 115], 14, .mk #[69, 109, 97, 105, 108, 65, 100, 100, 114, 101, 115, 115], false, .mk #[]), (.mk #[112, 104, 111, 110, 101, 115], 14, .mk #[80, 104, 111, 110, 101], false, .mk #[]), (.mk #[111, 110, 108, 105, 110, 101, 83, 101, 114, 118, 105, 99, 101, 115], 14, .mk #[79, 110, 108, 105, 110, 101, 83, 101, 114, 118, 105, 99, 101], false, .mk #[]), (.mk #[112, 114, 101, 102, 101, 114, 114, 101, 100, 76, 97, 110, 103, 117, 97, 103, 101, 115], 14, .mk #[76, 97, 110, 103, 117, 97, 103, 101, 80, 114, 101, 102], false, .mk #[]), (.mk #[97, 100, 100, 114, 101, 115, 115, 101, 115], 14, .mk #[65, 100, 100, 114, 101, 115, 115], false, .mk #[]), (.mk #[97, 110, 110, 105, 118, 101, 114, 115, 97, 114, 105, 101, 115], 14, .mk #[65, 110, 110, 105, 118, 101, 114, 115, 97, 114, 121], false, .mk #[]), (.mk #[110, 111, 116, 101, 115], 14, .mk #[78, 111, 116, 101], false, .mk #[]), (.mk #[108, 105, 110, 107, 115], 14, .mk #[76, 105, 110, 107], false, .mk #[]), (.mk #[109, 101, 100, 105, 97], 14, .mk #[77, 101, 100, 105, 97], false, .mk #[])] : List Prp) T_Card _ ho rfl (by decide +kernel) (by decide +kernel) (by simp) (by decide))
  clear ho
  go_wp2_with fail
  refine HU.out.mono ?_
  rintro e wz ⟨rfl, hoz, hbz⟩
  have Ho := Lib.hid (own_base hoz g26)
  have Hb := Lib.hid (HB.out.trans (hbz.mono g26))
  clear hoz hbz
  go_wp2_with fail
  go_ret
  exact ⟨_, _, rfl, Ho.out, Hb.out⟩
end Go.Proofs.YtijpbfafkdpolaaDoor
