import Derived.Test.YtijpbfafkdpolaaDoorQ13d
import Derived.Outline
namespace Go.Proofs.YtijpbfafkdpolaaDoor
open Go.RowKit Go.Shelf

def typesL : List ByteArray := ([(.mk #[67, 97, 114, 100]), (.mk #[65, 100, 100, 114, 101, 115, 115]), (.mk #[65, 100, 100, 114, 101, 115, 115, 67, 111, 109, 112, 111, 110, 101, 110, 116]), (.mk #[65, 110, 110, 105, 118, 101, 114, 115, 97, 114, 121]), (.mk #[69, 109, 97, 105, 108, 65, 100, 100, 114, 101, 115, 115]), (.mk #[76, 97, 110, 103, 117, 97, 103, 101, 80, 114, 101, 102]), (.mk #[76, 105, 110, 107]), (.mk #[77, 101, 100, 105, 97]), (.mk #[78, 97, 109, 101]), (.mk #[78, 97, 109, 101, 67, 111, 109, 112, 111, 110, 101, 110, 116]), (.mk #[78, 105, 99, 107, 110, 97, 109, 101]), (.mk #[78, 111, 116, 101]), (.mk #[79, 110, 108, 105, 110, 101, 83, 101, 114, 118, 105, 99, 101]), (.mk #[79, 114, 103, 85, 110, 105, 116]), (.mk #[79, 114, 103, 97, 110, 105, 122, 97, 116, 105, 111, 110]), (.mk #[80, 97, 114, 116, 105, 97, 108, 68, 97, 116, 101]), (.mk #[80, 104, 111, 110, 101]), (.mk #[82, 101, 108, 97, 116, 105, 111, 110]), (.mk #[84, 105, 109, 101, 115, 116, 97, 109, 112]), (.mk #[84, 105, 116, 108, 101])] : List ByteArray)
theorem find_at (of name : ByteArray) (pa pc pd : ByteArray) (pb : Int) (pq b : Bool) (h : findF (propsF of) name = ((pa, pb, pc, pq, pd), b)) (W : World) : Calls Tryd.prog 36 #[.string of, .string name] W fun e w' => e = .returned (.tuple #[.agg #[.string pa, .int .i64 pb, .string pc, .bool pq, .string pd], .bool b]) ∧ Below W.heap.size W w' := by
  have := find_any of name W
  rw [h] at this
  exact this
set_option maxHeartbeats 1000000 in
theorem types_any (W : World) : Calls Tryd.prog 20 #[] W fun e w' => e = .returned (.slice (some ⟨W.heap.size, 0, none⟩) 20 20) ∧ W.alloc (.cells #[.string ⟨#[67, 97, 114, 100]⟩, .string ⟨#[65, 100, 100, 114, 101, 115, 115]⟩, .string ⟨#[65, 100, 100, 114, 101, 115, 115, 67, 111, 109, 112, 111, 110, 101, 110, 116]⟩, .string ⟨#[65, 110, 110, 105, 118, 101, 114, 115, 97, 114, 121]⟩, .string ⟨#[69, 109, 97, 105, 108, 65, 100, 100, 114, 101, 115, 115]⟩, .string ⟨#[76, 97, 110, 103, 117, 97, 103, 101, 80, 114, 101, 102]⟩, .string ⟨#[76, 105, 110, 107]⟩, .string ⟨#[77, 101, 100, 105, 97]⟩, .string ⟨#[78, 97, 109, 101]⟩, .string ⟨#[78, 97, 109, 101, 67, 111, 109, 112, 111, 110, 101, 110, 116]⟩, .string ⟨#[78, 105, 99, 107, 110, 97, 109, 101]⟩, .string ⟨#[78, 111, 116, 101]⟩, .string ⟨#[79, 110, 108, 105, 110, 101, 83, 101, 114, 118, 105, 99, 101]⟩, .string ⟨#[79, 114, 103, 85, 110, 105, 116]⟩, .string ⟨#[79, 114, 103, 97, 110, 105, 122, 97, 116, 105, 111, 110]⟩, .string ⟨#[80, 97, 114, 116, 105, 97, 108, 68, 97, 116, 101]⟩, .string ⟨#[80, 104, 111, 110, 101]⟩, .string ⟨#[82, 101, 108, 97, 116, 105, 111, 110]⟩, .string ⟨#[84, 105, 109, 101, 115, 116, 97, 109, 112]⟩, .string ⟨#[84, 105, 116, 108, 101]⟩] 9) = w' := by
  go_enter Tryd.func20, Tryd.ntmps20
  go_wp2_with fail
  go_ret
  exact ⟨rfl, rfl⟩
theorem props_at (of : ByteArray) (n : Nat) (t : List Prp) (h : propsF of = t) (hn : t.length = n) (W : World) : Calls Tryd.prog 22 #[.string of] W (PropsPost W.heap.size W n t) := by
  subst h; subst hn; exact Props_any of W
set_option maxRecDepth 100000 in
set_option maxHeartbeats 4000000 in
theorem awake_any (W : World) : Calls Tryd.prog 21 #[] W fun e w' => e = .returned (.bool true) ∧ Below W.heap.size W w' := by
  have C1 := Lib.hid (find_at ⟨#[84, 105, 116, 108, 101]⟩ ⟨#[107, 105, 110, 100]⟩ ⟨#[107, 105, 110, 100]⟩ ⟨#[114, 111, 108, 101, 32, 116, 105, 116, 108, 101]⟩ ⟨#[116, 105, 116, 108, 101]⟩ 11 false true (by decide +kernel))
  have C2 := Lib.hid (find_at ⟨#[67, 97, 114, 100]⟩ ⟨#[99, 111, 108, 111, 114]⟩ ⟨#[]⟩ ⟨#[]⟩ ⟨#[]⟩ 0 false false (by decide +kernel))
  have C3 := Lib.hid (props_at ⟨#[84, 105, 109, 101, 115, 116, 97, 109, 112]⟩ 1 T_Timestamp (by decide +kernel) (by decide))
  go_enter Tryd.func21, Tryd.ntmps21
  go_wp2_with fail
  refine (C1.out _).mono ?_
  rintro e w1 ⟨rfl, hb1⟩
  have B1 := Lib.hid (hb1.alloc hb1.size (.cells #[.string ⟨#[107, 105, 110, 100]⟩, .int .i64 11, .string ⟨#[114, 111, 108, 101, 32, 116, 105, 116, 108, 101]⟩, .bool false, .string ⟨#[116, 105, 116, 108, 101]⟩] 41))
  have z1 : W.heap.size ≤ (w1.alloc (.cells #[.string ⟨#[107, 105, 110, 100]⟩, .int .i64 11, .string ⟨#[114, 111, 108, 101, 32, 116, 105, 116, 108, 101]⟩, .bool false, .string ⟨#[116, 105, 116, 108, 101]⟩] 41)).heap.size := Nat.le_trans hb1.size (by simp)
  clear hb1
  go_wp2_with fail
  refine (C2.out _).mono ?_
  rintro e w2 ⟨rfl, hb2⟩
  have hz : w1.heap.size < (w1.alloc (.cells #[.string ⟨#[107, 105, 110, 100]⟩, .int .i64 11, .string ⟨#[114, 111, 108, 101, 32, 116, 105, 116, 108, 101]⟩, .bool false, .string ⟨#[116, 105, 116, 108, 101]⟩] 41)).heap.size := by simp
  have x0 : w2.cell? ⟨w1.heap.size, 0, none⟩ = some (.string ⟨#[107, 105, 110, 100]⟩) := (hb2.cell (p := ⟨w1.heap.size, 0, none⟩) hz).trans (by simp [World.cell?_alloc_new])
  have x1 : w2.cell? ⟨w1.heap.size, 1, none⟩ = some (.int .i64 11) := (hb2.cell (p := ⟨w1.heap.size, 1, none⟩) hz).trans (by simp [World.cell?_alloc_new])
  have x2 : w2.cell? ⟨w1.heap.size, 2, none⟩ = some (.string ⟨#[114, 111, 108, 101, 32, 116, 105, 116, 108, 101]⟩) := (hb2.cell (p := ⟨w1.heap.size, 2, none⟩) hz).trans (by simp [World.cell?_alloc_new])
  have x3 : w2.cell? ⟨w1.heap.size, 3, none⟩ = some (.bool false) := (hb2.cell (p := ⟨w1.heap.size, 3, none⟩) hz).trans (by simp [World.cell?_alloc_new])
  have x4 : w2.cell? ⟨w1.heap.size, 4, none⟩ = some (.string ⟨#[116, 105, 116, 108, 101]⟩) := (hb2.cell (p := ⟨w1.heap.size, 4, none⟩) hz).trans (by simp [World.cell?_alloc_new])
  have hw2 : w1.heap.size < w2.heap.size := Nat.lt_of_lt_of_le hz hb2.size
  have B2 := Lib.hid (B1.out.trans (hb2.mono z1))
  have z2 := Nat.le_trans z1 hb2.size
  have B3 := Lib.hid (B2.out.alloc z2 (.cells #[.string ⟨#[]⟩, .int .i64 0, .string ⟨#[]⟩, .bool false, .string ⟨#[]⟩] 41))
  clear hb2 hz
  go_wp2_with fail
  refine (types_any _).mono ?_
  rintro e w3 ⟨rfl, rfl⟩
  have B4 := Lib.hid (B3.out.alloc (Nat.le_trans z2 (by simp)) (.cells #[.string ⟨#[67, 97, 114, 100]⟩, .string ⟨#[65, 100, 100, 114, 101, 115, 115]⟩, .string ⟨#[65, 100, 100, 114, 101, 115, 115, 67, 111, 109, 112, 111, 110, 101, 110, 116]⟩, .string ⟨#[65, 110, 110, 105, 118, 101, 114, 115, 97, 114, 121]⟩, .string ⟨#[69, 109, 97, 105, 108, 65, 100, 100, 114, 101, 115, 115]⟩, .string ⟨#[76, 97, 110, 103, 117, 97, 103, 101, 80, 114, 101, 102]⟩, .string ⟨#[76, 105, 110, 107]⟩, .string ⟨#[77, 101, 100, 105, 97]⟩, .string ⟨#[78, 97, 109, 101]⟩, .string ⟨#[78, 97, 109, 101, 67, 111, 109, 112, 111, 110, 101, 110, 116]⟩, .string ⟨#[78, 105, 99, 107, 110, 97, 109, 101]⟩, .string ⟨#[78, 111, 116, 101]⟩, .string ⟨#[79, 110, 108, 105, 110, 101, 83, 101, 114, 118, 105, 99, 101]⟩, .string ⟨#[79, 114, 103, 85, 110, 105, 116]⟩, .string ⟨#[79, 114, 103, 97, 110, 105, 122, 97, 116, 105, 111, 110]⟩, .string ⟨#[80, 97, 114, 116, 105, 97, 108, 68, 97, 116, 101]⟩, .string ⟨#[80, 104, 111, 110, 101]⟩, .string ⟨#[82, 101, 108, 97, 116, 105, 111, 110]⟩, .string ⟨#[84, 105, 109, 101, 115, 116, 97, 109, 112]⟩, .string ⟨#[84, 105, 116, 108, 101]⟩] 9))
  have z4 : W.heap.size ≤ ((w2.alloc (.cells #[.string ⟨#[]⟩, .int .i64 0, .string ⟨#[]⟩, .bool false, .string ⟨#[]⟩] 41)).alloc (.cells #[.string ⟨#[67, 97, 114, 100]⟩, .string ⟨#[65, 100, 100, 114, 101, 115, 115]⟩, .string ⟨#[65, 100, 100, 114, 101, 115, 115, 67, 111, 109, 112, 111, 110, 101, 110, 116]⟩, .string ⟨#[65, 110, 110, 105, 118, 101, 114, 115, 97, 114, 121]⟩, .string ⟨#[69, 109, 97, 105, 108, 65, 100, 100, 114, 101, 115, 115]⟩, .string ⟨#[76, 97, 110, 103, 117, 97, 103, 101, 80, 114, 101, 102]⟩, .string ⟨#[76, 105, 110, 107]⟩, .string ⟨#[77, 101, 100, 105, 97]⟩, .string ⟨#[78, 97, 109, 101]⟩, .string ⟨#[78, 97, 109, 101, 67, 111, 109, 112, 111, 110, 101, 110, 116]⟩, .string ⟨#[78, 105, 99, 107, 110, 97, 109, 101]⟩, .string ⟨#[78, 111, 116, 101]⟩, .string ⟨#[79, 110, 108, 105, 110, 101, 83, 101, 114, 118, 105, 99, 101]⟩, .string ⟨#[79, 114, 103, 85, 110, 105, 116]⟩, .string ⟨#[79, 114, 103, 97, 110, 105, 122, 97, 116, 105, 111, 110]⟩, .string ⟨#[80, 97, 114, 116, 105, 97, 108, 68, 97, 116, 101]⟩, .string ⟨#[80, 104, 111, 110, 101]⟩, .string ⟨#[82, 101, 108, 97, 116, 105, 111, 110]⟩, .string ⟨#[84, 105, 109, 101, 115, 116, 97, 109, 112]⟩, .string ⟨#[84, 105, 116, 108, 101]⟩] 9)).heap.size := B4.out.size
  go_wp2_with fail
  refine (C3.out _).mono ?_
  rintro e w5 ⟨A5, c5, rfl, ho, hb5⟩
  have B5 := Lib.hid (B4.out.trans (hb5.mono z4))
  clear ho hb5
  go_wp2_with fail
  go_ret
  exact ⟨ret_boolM'' (by simp), B5.out⟩
end Go.Proofs.YtijpbfafkdpolaaDoor
