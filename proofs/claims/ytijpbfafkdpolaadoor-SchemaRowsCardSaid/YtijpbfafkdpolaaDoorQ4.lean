import Derived.Test.YtijpbfafkdpolaaDoorQ3
import Derived.Test.YtijpbfafkdpolaaDoorMem2
namespace Go.Proofs.YtijpbfafkdpolaaDoor
open Go.RowKit Go.Shelf

theorem infoP : (Tryd.prog.info? 41).map (fun i => (i.zero, i.size, i.bytes)) = some (some (.agg #[.string ⟨#[]⟩, .int .i64 0, .string ⟨#[]⟩, .bool false, .string ⟨#[]⟩]), 5, 64) := by kernel_rfl
def PropsPost (base : Nat) (w : World) (n : Nat) (t : List Prp) (e : Ending) (w' : World) : Prop := ∃ A c, e = .returned (.slice A n c) ∧ w'.ownsRow base 41 5 (.slice A n c) n (cellsP t) ∧ Below base w w'
theorem p_words (name : ByteArray) (form : Int) (xs : List ByteArray) (J : ByteArray) (hJ : wordsF xs = J) (hN : xs.length ≤ 1000) (hlen : J.size ≤ 100000) (W : World) :
    Calls Tryd.prog 41 #[.string name, .int .i64 form, .slice (some ⟨W.heap.size, 0, none⟩) xs.length xs.length] (W.alloc (.cells (xs.map Value.string).toArray 9)) fun e w' => e = .returned (.agg #[.string name, .int .i64 form, .string J, .bool false, .string ⟨#[]⟩]) ∧ Below W.heap.size W w' :=
  (p_at name form W.heap.size xs.length xs.length xs J hJ (W.alloc (.cells (xs.map Value.string).toArray 9)) rfl (Nat.le_refl _) (lit_cells W xs 9) (by simp) hN hlen).mono fun e w' ⟨he, hb⟩ => ⟨he, ((Below.refl W.heap.size W).alloc (Nat.le_refl _) _).trans (hb.mono (by simp))⟩

set_option maxRecDepth 100000 in
theorem pw_0 (W : World) : Calls Tryd.prog 41 #[.string ⟨#[118, 101, 114, 115, 105, 111, 110]⟩, .int .i64 11, .slice (some ⟨W.heap.size, 0, none⟩) 1 1] (W.alloc (.cells #[.string ⟨#[49, 46, 48]⟩] 9)) fun e w' => e = .returned (.agg #[.string ⟨#[118, 101, 114, 115, 105, 111, 110]⟩, .int .i64 11, .string ⟨#[49, 46, 48]⟩, .bool false, .string ⟨#[]⟩]) ∧ Below W.heap.size W w' :=
  p_words ⟨#[118, 101, 114, 115, 105, 111, 110]⟩ 11 [⟨#[49, 46, 48]⟩] ⟨#[49, 46, 48]⟩ (by decide +kernel) (by decide) (by decide) W
set_option maxRecDepth 100000 in
theorem pw_1 (W : World) : Calls Tryd.prog 41 #[.string ⟨#[107, 105, 110, 100]⟩, .int .i64 11, .slice (some ⟨W.heap.size, 0, none⟩) 6 6] (W.alloc (.cells #[.string ⟨#[97, 112, 112, 108, 105, 99, 97, 116, 105, 111, 110]⟩, .string ⟨#[100, 101, 118, 105, 99, 101]⟩, .string ⟨#[103, 114, 111, 117, 112]⟩, .string ⟨#[105, 110, 100, 105, 118, 105, 100, 117, 97, 108]⟩, .string ⟨#[108, 111, 99, 97, 116, 105, 111, 110]⟩, .string ⟨#[111, 114, 103]⟩] 9)) fun e w' => e = .returned (.agg #[.string ⟨#[107, 105, 110, 100]⟩, .int .i64 11, .string ⟨#[97, 112, 112, 108, 105, 99, 97, 116, 105, 111, 110, 32, 100, 101, 118, 105, 99, 101, 32, 103, 114, 111, 117, 112, 32, 105, 110, 100, 105, 118, 105, 100, 117, 97, 108, 32, 108, 111, 99, 97, 116, 105, 111, 110, 32, 111, 114, 103]⟩, .bool false, .string ⟨#[]⟩]) ∧ Below W.heap.size W w' :=
  p_words ⟨#[107, 105, 110, 100]⟩ 11 [⟨#[97, 112, 112, 108, 105, 99, 97, 116, 105, 111, 110]⟩, ⟨#[100, 101, 118, 105, 99, 101]⟩, ⟨#[103, 114, 111, 117, 112]⟩, ⟨#[105, 110, 100, 105, 118, 105, 100, 117, 97, 108]⟩, ⟨#[108, 111, 99, 97, 116, 105, 111, 110]⟩, ⟨#[111, 114, 103]⟩] ⟨#[97, 112, 112, 108, 105, 99, 97, 116, 105, 111, 110, 32, 100, 101, 118, 105, 99, 101, 32, 103, 114, 111, 117, 112, 32, 105, 110, 100, 105, 118, 105, 100, 117, 97, 108, 32, 108, 111, 99, 97, 116, 105, 111, 110, 32, 111, 114, 103]⟩ (by decide +kernel) (by decide) (by decide) W
set_option maxRecDepth 100000 in
theorem pw_2 (W : World) : Calls Tryd.prog 41 #[.string ⟨#[114, 101, 108, 97, 116, 101, 100, 84, 111]⟩, .int .i64 15, .slice (some ⟨W.heap.size, 0, none⟩) 1 1] (W.alloc (.cells #[.string ⟨#[82, 101, 108, 97, 116, 105, 111, 110]⟩] 9)) fun e w' => e = .returned (.agg #[.string ⟨#[114, 101, 108, 97, 116, 101, 100, 84, 111]⟩, .int .i64 15, .string ⟨#[82, 101, 108, 97, 116, 105, 111, 110]⟩, .bool false, .string ⟨#[]⟩]) ∧ Below W.heap.size W w' :=
  p_words ⟨#[114, 101, 108, 97, 116, 101, 100, 84, 111]⟩ 15 [⟨#[82, 101, 108, 97, 116, 105, 111, 110]⟩] ⟨#[82, 101, 108, 97, 116, 105, 111, 110]⟩ (by decide +kernel) (by decide) (by decide) W
set_option maxRecDepth 100000 in
theorem pw_3 (W : World) : Calls Tryd.prog 41 #[.string ⟨#[110, 97, 109, 101]⟩, .int .i64 12, .slice (some ⟨W.heap.size, 0, none⟩) 1 1] (W.alloc (.cells #[.string ⟨#[78, 97, 109, 101]⟩] 9)) fun e w' => e = .returned (.agg #[.string ⟨#[110, 97, 109, 101]⟩, .int .i64 12, .string ⟨#[78, 97, 109, 101]⟩, .bool false, .string ⟨#[]⟩]) ∧ Below W.heap.size W w' :=
  p_words ⟨#[110, 97, 109, 101]⟩ 12 [⟨#[78, 97, 109, 101]⟩] ⟨#[78, 97, 109, 101]⟩ (by decide +kernel) (by decide) (by decide) W
set_option maxRecDepth 100000 in
theorem pw_4 (W : World) : Calls Tryd.prog 41 #[.string ⟨#[110, 105, 99, 107, 110, 97, 109, 101, 115]⟩, .int .i64 14, .slice (some ⟨W.heap.size, 0, none⟩) 1 1] (W.alloc (.cells #[.string ⟨#[78, 105, 99, 107, 110, 97, 109, 101]⟩] 9)) fun e w' => e = .returned (.agg #[.string ⟨#[110, 105, 99, 107, 110, 97, 109, 101, 115]⟩, .int .i64 14, .string ⟨#[78, 105, 99, 107, 110, 97, 109, 101]⟩, .bool false, .string ⟨#[]⟩]) ∧ Below W.heap.size W w' :=
  p_words ⟨#[110, 105, 99, 107, 110, 97, 109, 101, 115]⟩ 14 [⟨#[78, 105, 99, 107, 110, 97, 109, 101]⟩] ⟨#[78, 105, 99, 107, 110, 97, 109, 101]⟩ (by decide +kernel) (by decide) (by decide) W
set_option maxRecDepth 100000 in
theorem pw_5 (W : World) : Calls Tryd.prog 41 #[.string ⟨#[111, 114, 103, 97, 110, 105, 122, 97, 116, 105, 111, 110, 115]⟩, .int .i64 14, .slice (some ⟨W.heap.size, 0, none⟩) 1 1] (W.alloc (.cells #[.string ⟨#[79, 114, 103, 97, 110, 105, 122, 97, 116, 105, 111, 110]⟩] 9)) fun e w' => e = .returned (.agg #[.string ⟨#[111, 114, 103, 97, 110, 105, 122, 97, 116, 105, 111, 110, 115]⟩, .int .i64 14, .string ⟨#[79, 114, 103, 97, 110, 105, 122, 97, 116, 105, 111, 110]⟩, .bool false, .string ⟨#[]⟩]) ∧ Below W.heap.size W w' :=
  p_words ⟨#[111, 114, 103, 97, 110, 105, 122, 97, 116, 105, 111, 110, 115]⟩ 14 [⟨#[79, 114, 103, 97, 110, 105, 122, 97, 116, 105, 111, 110]⟩] ⟨#[79, 114, 103, 97, 110, 105, 122, 97, 116, 105, 111, 110]⟩ (by decide +kernel) (by decide) (by decide) W
set_option maxRecDepth 100000 in
theorem pw_6 (W : World) : Calls Tryd.prog 41 #[.string ⟨#[116, 105, 116, 108, 101, 115]⟩, .int .i64 14, .slice (some ⟨W.heap.size, 0, none⟩) 1 1] (W.alloc (.cells #[.string ⟨#[84, 105, 116, 108, 101]⟩] 9)) fun e w' => e = .returned (.agg #[.string ⟨#[116, 105, 116, 108, 101, 115]⟩, .int .i64 14, .string ⟨#[84, 105, 116, 108, 101]⟩, .bool false, .string ⟨#[]⟩]) ∧ Below W.heap.size W w' :=
  p_words ⟨#[116, 105, 116, 108, 101, 115]⟩ 14 [⟨#[84, 105, 116, 108, 101]⟩] ⟨#[84, 105, 116, 108, 101]⟩ (by decide +kernel) (by decide) (by decide) W
set_option maxRecDepth 100000 in
theorem pw_7 (W : World) : Calls Tryd.prog 41 #[.string ⟨#[101, 109, 97, 105, 108, 115]⟩, .int .i64 14, .slice (some ⟨W.heap.size, 0, none⟩) 1 1] (W.alloc (.cells #[.string ⟨#[69, 109, 97, 105, 108, 65, 100, 100, 114, 101, 115, 115]⟩] 9)) fun e w' => e = .returned (.agg #[.string ⟨#[101, 109, 97, 105, 108, 115]⟩, .int .i64 14, .string ⟨#[69, 109, 97, 105, 108, 65, 100, 100, 114, 101, 115, 115]⟩, .bool false, .string ⟨#[]⟩]) ∧ Below W.heap.size W w' :=
  p_words ⟨#[101, 109, 97, 105, 108, 115]⟩ 14 [⟨#[69, 109, 97, 105, 108, 65, 100, 100, 114, 101, 115, 115]⟩] ⟨#[69, 109, 97, 105, 108, 65, 100, 100, 114, 101, 115, 115]⟩ (by decide +kernel) (by decide) (by decide) W
set_option maxRecDepth 100000 in
theorem pw_8 (W : World) : Calls Tryd.prog 41 #[.string ⟨#[112, 104, 111, 110, 101, 115]⟩, .int .i64 14, .slice (some ⟨W.heap.size, 0, none⟩) 1 1] (W.alloc (.cells #[.string ⟨#[80, 104, 111, 110, 101]⟩] 9)) fun e w' => e = .returned (.agg #[.string ⟨#[112, 104, 111, 110, 101, 115]⟩, .int .i64 14, .string ⟨#[80, 104, 111, 110, 101]⟩, .bool false, .string ⟨#[]⟩]) ∧ Below W.heap.size W w' :=
  p_words ⟨#[112, 104, 111, 110, 101, 115]⟩ 14 [⟨#[80, 104, 111, 110, 101]⟩] ⟨#[80, 104, 111, 110, 101]⟩ (by decide +kernel) (by decide) (by decide) W
set_option maxRecDepth 100000 in
theorem pw_9 (W : World) : Calls Tryd.prog 41 #[.string ⟨#[111, 110, 108, 105, 110, 101, 83, 101, 114, 118, 105, 99, 101, 115]⟩, .int .i64 14, .slice (some ⟨W.heap.size, 0, none⟩) 1 1] (W.alloc (.cells #[.string ⟨#[79, 110, 108, 105, 110, 101, 83, 101, 114, 118, 105, 99, 101]⟩] 9)) fun e w' => e = .returned (.agg #[.string ⟨#[111, 110, 108, 105, 110, 101, 83, 101, 114, 118, 105, 99, 101, 115]⟩, .int .i64 14, .string ⟨#[79, 110, 108, 105, 110, 101, 83, 101, 114, 118, 105, 99, 101]⟩, .bool false, .string ⟨#[]⟩]) ∧ Below W.heap.size W w' :=
  p_words ⟨#[111, 110, 108, 105, 110, 101, 83, 101, 114, 118, 105, 99, 101, 115]⟩ 14 [⟨#[79, 110, 108, 105, 110, 101, 83, 101, 114, 118, 105, 99, 101]⟩] ⟨#[79, 110, 108, 105, 110, 101, 83, 101, 114, 118, 105, 99, 101]⟩ (by decide +kernel) (by decide) (by decide) W
set_option maxRecDepth 100000 in
theorem pw_10 (W : World) : Calls Tryd.prog 41 #[.string ⟨#[112, 114, 101, 102, 101, 114, 114, 101, 100, 76, 97, 110, 103, 117, 97, 103, 101, 115]⟩, .int .i64 14, .slice (some ⟨W.heap.size, 0, none⟩) 1 1] (W.alloc (.cells #[.string ⟨#[76, 97, 110, 103, 117, 97, 103, 101, 80, 114, 101, 102]⟩] 9)) fun e w' => e = .returned (.agg #[.string ⟨#[112, 114, 101, 102, 101, 114, 114, 101, 100, 76, 97, 110, 103, 117, 97, 103, 101, 115]⟩, .int .i64 14, .string ⟨#[76, 97, 110, 103, 117, 97, 103, 101, 80, 114, 101, 102]⟩, .bool false, .string ⟨#[]⟩]) ∧ Below W.heap.size W w' :=
  p_words ⟨#[112, 114, 101, 102, 101, 114, 114, 101, 100, 76, 97, 110, 103, 117, 97, 103, 101, 115]⟩ 14 [⟨#[76, 97, 110, 103, 117, 97, 103, 101, 80, 114, 101, 102]⟩] ⟨#[76, 97, 110, 103, 117, 97, 103, 101, 80, 114, 101, 102]⟩ (by decide +kernel) (by decide) (by decide) W
set_option maxRecDepth 100000 in
theorem pw_11 (W : World) : Calls Tryd.prog 41 #[.string ⟨#[97, 100, 100, 114, 101, 115, 115, 101, 115]⟩, .int .i64 14, .slice (some ⟨W.heap.size, 0, none⟩) 1 1] (W.alloc (.cells #[.string ⟨#[65, 100, 100, 114, 101, 115, 115]⟩] 9)) fun e w' => e = .returned (.agg #[.string ⟨#[97, 100, 100, 114, 101, 115, 115, 101, 115]⟩, .int .i64 14, .string ⟨#[65, 100, 100, 114, 101, 115, 115]⟩, .bool false, .string ⟨#[]⟩]) ∧ Below W.heap.size W w' :=
  p_words ⟨#[97, 100, 100, 114, 101, 115, 115, 101, 115]⟩ 14 [⟨#[65, 100, 100, 114, 101, 115, 115]⟩] ⟨#[65, 100, 100, 114, 101, 115, 115]⟩ (by decide +kernel) (by decide) (by decide) W
set_option maxRecDepth 100000 in
theorem pw_12 (W : World) : Calls Tryd.prog 41 #[.string ⟨#[97, 110, 110, 105, 118, 101, 114, 115, 97, 114, 105, 101, 115]⟩, .int .i64 14, .slice (some ⟨W.heap.size, 0, none⟩) 1 1] (W.alloc (.cells #[.string ⟨#[65, 110, 110, 105, 118, 101, 114, 115, 97, 114, 121]⟩] 9)) fun e w' => e = .returned (.agg #[.string ⟨#[97, 110, 110, 105, 118, 101, 114, 115, 97, 114, 105, 101, 115]⟩, .int .i64 14, .string ⟨#[65, 110, 110, 105, 118, 101, 114, 115, 97, 114, 121]⟩, .bool false, .string ⟨#[]⟩]) ∧ Below W.heap.size W w' :=
  p_words ⟨#[97, 110, 110, 105, 118, 101, 114, 115, 97, 114, 105, 101, 115]⟩ 14 [⟨#[65, 110, 110, 105, 118, 101, 114, 115, 97, 114, 121]⟩] ⟨#[65, 110, 110, 105, 118, 101, 114, 115, 97, 114, 121]⟩ (by decide +kernel) (by decide) (by decide) W
set_option maxRecDepth 100000 in
theorem pw_13 (W : World) : Calls Tryd.prog 41 #[.string ⟨#[110, 111, 116, 101, 115]⟩, .int .i64 14, .slice (some ⟨W.heap.size, 0, none⟩) 1 1] (W.alloc (.cells #[.string ⟨#[78, 111, 116, 101]⟩] 9)) fun e w' => e = .returned (.agg #[.string ⟨#[110, 111, 116, 101, 115]⟩, .int .i64 14, .string ⟨#[78, 111, 116, 101]⟩, .bool false, .string ⟨#[]⟩]) ∧ Below W.heap.size W w' :=
  p_words ⟨#[110, 111, 116, 101, 115]⟩ 14 [⟨#[78, 111, 116, 101]⟩] ⟨#[78, 111, 116, 101]⟩ (by decide +kernel) (by decide) (by decide) W
set_option maxRecDepth 100000 in
theorem pw_14 (W : World) : Calls Tryd.prog 41 #[.string ⟨#[108, 105, 110, 107, 115]⟩, .int .i64 14, .slice (some ⟨W.heap.size, 0, none⟩) 1 1] (W.alloc (.cells #[.string ⟨#[76, 105, 110, 107]⟩] 9)) fun e w' => e = .returned (.agg #[.string ⟨#[108, 105, 110, 107, 115]⟩, .int .i64 14, .string ⟨#[76, 105, 110, 107]⟩, .bool false, .string ⟨#[]⟩]) ∧ Below W.heap.size W w' :=
  p_words ⟨#[108, 105, 110, 107, 115]⟩ 14 [⟨#[76, 105, 110, 107]⟩] ⟨#[76, 105, 110, 107]⟩ (by decide +kernel) (by decide) (by decide) W
set_option maxRecDepth 100000 in
theorem pw_15 (W : World) : Calls Tryd.prog 41 #[.string ⟨#[109, 101, 100, 105, 97]⟩, .int .i64 14, .slice (some ⟨W.heap.size, 0, none⟩) 1 1] (W.alloc (.cells #[.string ⟨#[77, 101, 100, 105, 97]⟩] 9)) fun e w' => e = .returned (.agg #[.string ⟨#[109, 101, 100, 105, 97]⟩, .int .i64 14, .string ⟨#[77, 101, 100, 105, 97]⟩, .bool false, .string ⟨#[]⟩]) ∧ Below W.heap.size W w' :=
  p_words ⟨#[109, 101, 100, 105, 97]⟩ 14 [⟨#[77, 101, 100, 105, 97]⟩] ⟨#[77, 101, 100, 105, 97]⟩ (by decide +kernel) (by decide) (by decide) W
set_option maxRecDepth 100000 in
theorem pw_16 (W : World) : Calls Tryd.prog 41 #[.string ⟨#[99, 111, 110, 116, 101, 120, 116, 115]⟩, .int .i64 17, .slice (some ⟨W.heap.size, 0, none⟩) 4 4] (W.alloc (.cells #[.string ⟨#[98, 105, 108, 108, 105, 110, 103]⟩, .string ⟨#[100, 101, 108, 105, 118, 101, 114, 121]⟩, .string ⟨#[112, 114, 105, 118, 97, 116, 101]⟩, .string ⟨#[119, 111, 114, 107]⟩] 9)) fun e w' => e = .returned (.agg #[.string ⟨#[99, 111, 110, 116, 101, 120, 116, 115]⟩, .int .i64 17, .string ⟨#[98, 105, 108, 108, 105, 110, 103, 32, 100, 101, 108, 105, 118, 101, 114, 121, 32, 112, 114, 105, 118, 97, 116, 101, 32, 119, 111, 114, 107]⟩, .bool false, .string ⟨#[]⟩]) ∧ Below W.heap.size W w' :=
  p_words ⟨#[99, 111, 110, 116, 101, 120, 116, 115]⟩ 17 [⟨#[98, 105, 108, 108, 105, 110, 103]⟩, ⟨#[100, 101, 108, 105, 118, 101, 114, 121]⟩, ⟨#[112, 114, 105, 118, 97, 116, 101]⟩, ⟨#[119, 111, 114, 107]⟩] ⟨#[98, 105, 108, 108, 105, 110, 103, 32, 100, 101, 108, 105, 118, 101, 114, 121, 32, 112, 114, 105, 118, 97, 116, 101, 32, 119, 111, 114, 107]⟩ (by decide +kernel) (by decide) (by decide) W
set_option maxRecDepth 100000 in
theorem pw_17 (W : World) : Calls Tryd.prog 41 #[.string ⟨#[99, 111, 109, 112, 111, 110, 101, 110, 116, 115]⟩, .int .i64 13, .slice (some ⟨W.heap.size, 0, none⟩) 1 1] (W.alloc (.cells #[.string ⟨#[65, 100, 100, 114, 101, 115, 115, 67, 111, 109, 112, 111, 110, 101, 110, 116]⟩] 9)) fun e w' => e = .returned (.agg #[.string ⟨#[99, 111, 109, 112, 111, 110, 101, 110, 116, 115]⟩, .int .i64 13, .string ⟨#[65, 100, 100, 114, 101, 115, 115, 67, 111, 109, 112, 111, 110, 101, 110, 116]⟩, .bool false, .string ⟨#[]⟩]) ∧ Below W.heap.size W w' :=
  p_words ⟨#[99, 111, 109, 112, 111, 110, 101, 110, 116, 115]⟩ 13 [⟨#[65, 100, 100, 114, 101, 115, 115, 67, 111, 109, 112, 111, 110, 101, 110, 116]⟩] ⟨#[65, 100, 100, 114, 101, 115, 115, 67, 111, 109, 112, 111, 110, 101, 110, 116]⟩ (by decide +kernel) (by decide) (by decide) W
set_option maxRecDepth 100000 in
theorem pw_18 (W : World) : Calls Tryd.prog 41 #[.string ⟨#[99, 111, 109, 112, 111, 110, 101, 110, 116, 115]⟩, .int .i64 13, .slice (some ⟨W.heap.size, 0, none⟩) 1 1] (W.alloc (.cells #[.string ⟨#[78, 97, 109, 101, 67, 111, 109, 112, 111, 110, 101, 110, 116]⟩] 9)) fun e w' => e = .returned (.agg #[.string ⟨#[99, 111, 109, 112, 111, 110, 101, 110, 116, 115]⟩, .int .i64 13, .string ⟨#[78, 97, 109, 101, 67, 111, 109, 112, 111, 110, 101, 110, 116]⟩, .bool false, .string ⟨#[]⟩]) ∧ Below W.heap.size W w' :=
  p_words ⟨#[99, 111, 109, 112, 111, 110, 101, 110, 116, 115]⟩ 13 [⟨#[78, 97, 109, 101, 67, 111, 109, 112, 111, 110, 101, 110, 116]⟩] ⟨#[78, 97, 109, 101, 67, 111, 109, 112, 111, 110, 101, 110, 116]⟩ (by decide +kernel) (by decide) (by decide) W
set_option maxRecDepth 100000 in
theorem pw_19 (W : World) : Calls Tryd.prog 41 #[.string ⟨#[107, 105, 110, 100]⟩, .int .i64 11, .slice (some ⟨W.heap.size, 0, none⟩) 3 3] (W.alloc (.cells #[.string ⟨#[98, 105, 114, 116, 104]⟩, .string ⟨#[100, 101, 97, 116, 104]⟩, .string ⟨#[119, 101, 100, 100, 105, 110, 103]⟩] 9)) fun e w' => e = .returned (.agg #[.string ⟨#[107, 105, 110, 100]⟩, .int .i64 11, .string ⟨#[98, 105, 114, 116, 104, 32, 100, 101, 97, 116, 104, 32, 119, 101, 100, 100, 105, 110, 103]⟩, .bool false, .string ⟨#[]⟩]) ∧ Below W.heap.size W w' :=
  p_words ⟨#[107, 105, 110, 100]⟩ 11 [⟨#[98, 105, 114, 116, 104]⟩, ⟨#[100, 101, 97, 116, 104]⟩, ⟨#[119, 101, 100, 100, 105, 110, 103]⟩] ⟨#[98, 105, 114, 116, 104, 32, 100, 101, 97, 116, 104, 32, 119, 101, 100, 100, 105, 110, 103]⟩ (by decide +kernel) (by decide) (by decide) W
set_option maxRecDepth 100000 in
theorem pw_20 (W : World) : Calls Tryd.prog 41 #[.string ⟨#[107, 105, 110, 100]⟩, .int .i64 11, .slice (some ⟨W.heap.size, 0, none⟩) 1 1] (W.alloc (.cells #[.string ⟨#[99, 111, 110, 116, 97, 99, 116]⟩] 9)) fun e w' => e = .returned (.agg #[.string ⟨#[107, 105, 110, 100]⟩, .int .i64 11, .string ⟨#[99, 111, 110, 116, 97, 99, 116]⟩, .bool false, .string ⟨#[]⟩]) ∧ Below W.heap.size W w' :=
  p_words ⟨#[107, 105, 110, 100]⟩ 11 [⟨#[99, 111, 110, 116, 97, 99, 116]⟩] ⟨#[99, 111, 110, 116, 97, 99, 116]⟩ (by decide +kernel) (by decide) (by decide) W
set_option maxRecDepth 100000 in
theorem pw_21 (W : World) : Calls Tryd.prog 41 #[.string ⟨#[107, 105, 110, 100]⟩, .int .i64 11, .slice (some ⟨W.heap.size, 0, none⟩) 3 3] (W.alloc (.cells #[.string ⟨#[108, 111, 103, 111]⟩, .string ⟨#[112, 104, 111, 116, 111]⟩, .string ⟨#[115, 111, 117, 110, 100]⟩] 9)) fun e w' => e = .returned (.agg #[.string ⟨#[107, 105, 110, 100]⟩, .int .i64 11, .string ⟨#[108, 111, 103, 111, 32, 112, 104, 111, 116, 111, 32, 115, 111, 117, 110, 100]⟩, .bool false, .string ⟨#[]⟩]) ∧ Below W.heap.size W w' :=
  p_words ⟨#[107, 105, 110, 100]⟩ 11 [⟨#[108, 111, 103, 111]⟩, ⟨#[112, 104, 111, 116, 111]⟩, ⟨#[115, 111, 117, 110, 100]⟩] ⟨#[108, 111, 103, 111, 32, 112, 104, 111, 116, 111, 32, 115, 111, 117, 110, 100]⟩ (by decide +kernel) (by decide) (by decide) W
set_option maxRecDepth 100000 in
theorem pw_22 (W : World) : Calls Tryd.prog 41 #[.string ⟨#[99, 111, 110, 116, 101, 120, 116, 115]⟩, .int .i64 17, .slice (some ⟨W.heap.size, 0, none⟩) 2 2] (W.alloc (.cells #[.string ⟨#[112, 114, 105, 118, 97, 116, 101]⟩, .string ⟨#[119, 111, 114, 107]⟩] 9)) fun e w' => e = .returned (.agg #[.string ⟨#[99, 111, 110, 116, 101, 120, 116, 115]⟩, .int .i64 17, .string ⟨#[112, 114, 105, 118, 97, 116, 101, 32, 119, 111, 114, 107]⟩, .bool false, .string ⟨#[]⟩]) ∧ Below W.heap.size W w' :=
  p_words ⟨#[99, 111, 110, 116, 101, 120, 116, 115]⟩ 17 [⟨#[112, 114, 105, 118, 97, 116, 101]⟩, ⟨#[119, 111, 114, 107]⟩] ⟨#[112, 114, 105, 118, 97, 116, 101, 32, 119, 111, 114, 107]⟩ (by decide +kernel) (by decide) (by decide) W
set_option maxRecDepth 100000 in
theorem pw_23 (W : World) : Calls Tryd.prog 41 #[.string ⟨#[117, 110, 105, 116, 115]⟩, .int .i64 13, .slice (some ⟨W.heap.size, 0, none⟩) 1 1] (W.alloc (.cells #[.string ⟨#[79, 114, 103, 85, 110, 105, 116]⟩] 9)) fun e w' => e = .returned (.agg #[.string ⟨#[117, 110, 105, 116, 115]⟩, .int .i64 13, .string ⟨#[79, 114, 103, 85, 110, 105, 116]⟩, .bool false, .string ⟨#[]⟩]) ∧ Below W.heap.size W w' :=
  p_words ⟨#[117, 110, 105, 116, 115]⟩ 13 [⟨#[79, 114, 103, 85, 110, 105, 116]⟩] ⟨#[79, 114, 103, 85, 110, 105, 116]⟩ (by decide +kernel) (by decide) (by decide) W
set_option maxRecDepth 100000 in
theorem pw_24 (W : World) : Calls Tryd.prog 41 #[.string ⟨#[102, 101, 97, 116, 117, 114, 101, 115]⟩, .int .i64 17, .slice (some ⟨W.heap.size, 0, none⟩) 8 8] (W.alloc (.cells #[.string ⟨#[102, 97, 120]⟩, .string ⟨#[109, 97, 105, 110, 45, 110, 117, 109, 98, 101, 114]⟩, .string ⟨#[109, 111, 98, 105, 108, 101]⟩, .string ⟨#[112, 97, 103, 101, 114]⟩, .string ⟨#[116, 101, 120, 116]⟩, .string ⟨#[116, 101, 120, 116, 112, 104, 111, 110, 101]⟩, .string ⟨#[118, 105, 100, 101, 111]⟩, .string ⟨#[118, 111, 105, 99, 101]⟩] 9)) fun e w' => e = .returned (.agg #[.string ⟨#[102, 101, 97, 116, 117, 114, 101, 115]⟩, .int .i64 17, .string ⟨#[102, 97, 120, 32, 109, 97, 105, 110, 45, 110, 117, 109, 98, 101, 114, 32, 109, 111, 98, 105, 108, 101, 32, 112, 97, 103, 101, 114, 32, 116, 101, 120, 116, 32, 116, 101, 120, 116, 112, 104, 111, 110, 101, 32, 118, 105, 100, 101, 111, 32, 118, 111, 105, 99, 101]⟩, .bool false, .string ⟨#[]⟩]) ∧ Below W.heap.size W w' :=
  p_words ⟨#[102, 101, 97, 116, 117, 114, 101, 115]⟩ 17 [⟨#[102, 97, 120]⟩, ⟨#[109, 97, 105, 110, 45, 110, 117, 109, 98, 101, 114]⟩, ⟨#[109, 111, 98, 105, 108, 101]⟩, ⟨#[112, 97, 103, 101, 114]⟩, ⟨#[116, 101, 120, 116]⟩, ⟨#[116, 101, 120, 116, 112, 104, 111, 110, 101]⟩, ⟨#[118, 105, 100, 101, 111]⟩, ⟨#[118, 111, 105, 99, 101]⟩] ⟨#[102, 97, 120, 32, 109, 97, 105, 110, 45, 110, 117, 109, 98, 101, 114, 32, 109, 111, 98, 105, 108, 101, 32, 112, 97, 103, 101, 114, 32, 116, 101, 120, 116, 32, 116, 101, 120, 116, 112, 104, 111, 110, 101, 32, 118, 105, 100, 101, 111, 32, 118, 111, 105, 99, 101]⟩ (by decide +kernel) (by decide) (by decide) W
set_option maxRecDepth 100000 in
theorem pw_25 (W : World) : Calls Tryd.prog 41 #[.string ⟨#[114, 101, 108, 97, 116, 105, 111, 110]⟩, .int .i64 17, .slice (some ⟨W.heap.size, 0, none⟩) 20 20] (W.alloc (.cells #[.string ⟨#[97, 99, 113, 117, 97, 105, 110, 116, 97, 110, 99, 101]⟩, .string ⟨#[97, 103, 101, 110, 116]⟩, .string ⟨#[99, 104, 105, 108, 100]⟩, .string ⟨#[99, 111, 45, 114, 101, 115, 105, 100, 101, 110, 116]⟩, .string ⟨#[99, 111, 45, 119, 111, 114, 107, 101, 114]⟩, .string ⟨#[99, 111, 108, 108, 101, 97, 103, 117, 101]⟩, .string ⟨#[99, 111, 110, 116, 97, 99, 116]⟩, .string ⟨#[99, 114, 117, 115, 104]⟩, .string ⟨#[100, 97, 116, 101]⟩, .string ⟨#[101, 109, 101, 114, 103, 101, 110, 99, 121]⟩, .string ⟨#[102, 114, 105, 101, 110, 100]⟩, .string ⟨#[107, 105, 110]⟩, .string ⟨#[109, 101]⟩, .string ⟨#[109, 101, 116]⟩, .string ⟨#[109, 117, 115, 101]⟩, .string ⟨#[110, 101, 105, 103, 104, 98, 111, 114]⟩, .string ⟨#[112, 97, 114, 101, 110, 116]⟩, .string ⟨#[115, 105, 98, 108, 105, 110, 103]⟩, .string ⟨#[115, 112, 111, 117, 115, 101]⟩, .string ⟨#[115, 119, 101, 101, 116, 104, 101, 97, 114, 116]⟩] 9)) fun e w' => e = .returned (.agg #[.string ⟨#[114, 101, 108, 97, 116, 105, 111, 110]⟩, .int .i64 17, .string ⟨#[97, 99, 113, 117, 97, 105, 110, 116, 97, 110, 99, 101, 32, 97, 103, 101, 110, 116, 32, 99, 104, 105, 108, 100, 32, 99, 111, 45, 114, 101, 115, 105, 100, 101, 110, 116, 32, 99, 111, 45, 119, 111, 114, 107, 101, 114, 32, 99, 111, 108, 108, 101, 97, 103, 117, 101, 32, 99, 111, 110, 116, 97, 99, 116, 32, 99, 114, 117, 115, 104, 32, 100, 97, 116, 101, 32, 101, 109, 101, 114, 103, 101, 110, 99, 121, 32, 102, 114, 105, 101, 110, 100, 32, 107, 105, 110, 32, 109, 101, 32, 109, 101, 116, 32, 109, 117, 115, 101, 32, 110, 101, 105, 103, 104, 98, 111, 114, 32, 112, 97, 114, 101, 110, 116, 32, 115, 105, 98, 108, 105, 110, 103, 32, 115, 112, 111, 117, 115, 101, 32, 115, 119, 101, 101, 116, 104, 101, 97, 114, 116]⟩, .bool false, .string ⟨#[]⟩]) ∧ Below W.heap.size W w' :=
  p_words ⟨#[114, 101, 108, 97, 116, 105, 111, 110]⟩ 17 [⟨#[97, 99, 113, 117, 97, 105, 110, 116, 97, 110, 99, 101]⟩, ⟨#[97, 103, 101, 110, 116]⟩, ⟨#[99, 104, 105, 108, 100]⟩, ⟨#[99, 111, 45, 114, 101, 115, 105, 100, 101, 110, 116]⟩, ⟨#[99, 111, 45, 119, 111, 114, 107, 101, 114]⟩, ⟨#[99, 111, 108, 108, 101, 97, 103, 117, 101]⟩, ⟨#[99, 111, 110, 116, 97, 99, 116]⟩, ⟨#[99, 114, 117, 115, 104]⟩, ⟨#[100, 97, 116, 101]⟩, ⟨#[101, 109, 101, 114, 103, 101, 110, 99, 121]⟩, ⟨#[102, 114, 105, 101, 110, 100]⟩, ⟨#[107, 105, 110]⟩, ⟨#[109, 101]⟩, ⟨#[109, 101, 116]⟩, ⟨#[109, 117, 115, 101]⟩, ⟨#[110, 101, 105, 103, 104, 98, 111, 114]⟩, ⟨#[112, 97, 114, 101, 110, 116]⟩, ⟨#[115, 105, 98, 108, 105, 110, 103]⟩, ⟨#[115, 112, 111, 117, 115, 101]⟩, ⟨#[115, 119, 101, 101, 116, 104, 101, 97, 114, 116]⟩] ⟨#[97, 99, 113, 117, 97, 105, 110, 116, 97, 110, 99, 101, 32, 97, 103, 101, 110, 116, 32, 99, 104, 105, 108, 100, 32, 99, 111, 45, 114, 101, 115, 105, 100, 101, 110, 116, 32, 99, 111, 45, 119, 111, 114, 107, 101, 114, 32, 99, 111, 108, 108, 101, 97, 103, 117, 101, 32, 99, 111, 110, 116, 97, 99, 116, 32, 99, 114, 117, 115, 104, 32, 100, 97, 116, 101, 32, 101, 109, 101, 114, 103, 101, 110, 99, 121, 32, 102, 114, 105, 101, 110, 100, 32, 107, 105, 110, 32, 109, 101, 32, 109, 101, 116, 32, 109, 117, 115, 101, 32, 110, 101, 105, 103, 104, 98, 111, 114, 32, 112, 97, 114, 101, 110, 116, 32, 115, 105, 98, 108, 105, 110, 103, 32, 115, 112, 111, 117, 115, 101, 32, 115, 119, 101, 101, 116, 104, 101, 97, 114, 116]⟩ (by decide +kernel) (by decide) (by decide) W
set_option maxRecDepth 100000 in
theorem pw_26 (W : World) : Calls Tryd.prog 41 #[.string ⟨#[107, 105, 110, 100]⟩, .int .i64 11, .slice (some ⟨W.heap.size, 0, none⟩) 2 2] (W.alloc (.cells #[.string ⟨#[114, 111, 108, 101]⟩, .string ⟨#[116, 105, 116, 108, 101]⟩] 9)) fun e w' => e = .returned (.agg #[.string ⟨#[107, 105, 110, 100]⟩, .int .i64 11, .string ⟨#[114, 111, 108, 101, 32, 116, 105, 116, 108, 101]⟩, .bool false, .string ⟨#[]⟩]) ∧ Below W.heap.size W w' :=
  p_words ⟨#[107, 105, 110, 100]⟩ 11 [⟨#[114, 111, 108, 101]⟩, ⟨#[116, 105, 116, 108, 101]⟩] ⟨#[114, 111, 108, 101, 32, 116, 105, 116, 108, 101]⟩ (by decide +kernel) (by decide) (by decide) W
theorem own_some {w : World} {base e size n c : Nat} {A : Option Addr} {xs : List Value} (hn : 0 < n) (h : w.ownsRow base e size (.slice A n c) n xs) : ∃ g, A = some ⟨g, 0, none⟩ ∧ base ≤ g := by
  rcases h.2 with ⟨hv, h0⟩ | ⟨g, cap, cur, hv, hb, _⟩
  · omega
  · exact ⟨g, (Value.slice.inj hv).1, hb⟩
theorem own_lt {w : World} {base e size n c g : Nat} {xs : List Value} (h : w.ownsRow base e size (.slice (some ⟨g, 0, none⟩) n c) n xs) : g < w.heap.size := by
  rcases h.2 with ⟨hv, h0⟩ | ⟨g', cap, cur, hv, hb, hh, _⟩
  · cases hv
  · have e1 := (Value.slice.inj hv).1
    have e2 : g = g' := by simpa using e1
    subst e2
    exact (Array.getElem?_eq_some_iff.1 hh).1
set_option maxRecDepth 100000 in
set_option maxHeartbeats 4000000 in
theorem used_any (g n : Nat) (d t : List Prp) (W : World) (hown : W.ownsRow g 41 5 (.slice (some ⟨g, 0, none⟩) n n) n (cellsP d)) (hn : d.length = n) (h9 : n ≤ 900) (hg : g < W.heap.size) (hp : (d ++ ([(.mk #[99, 111, 110, 116, 101, 120, 116, 115], 17, .mk #[112, 114, 105, 118, 97, 116, 101, 32, 119, 111, 114, 107], false, .mk #[]), (.mk #[112, 114, 101, 102], 5, .mk #[], false, .mk #[])] : List Prp)).Perm t) (htp : t.Pairwise (fun x y => nmP x < nmP y)) :
    Calls Tryd.prog 42 #[.slice (some ⟨g, 0, none⟩) n n] W (PropsPost g W (n + 2) t) := by
  have Hown := Lib.hid hown
  clear hown
  have B0 := Lib.hid (Below.refl W.heap.size W)
  have g0 := Nat.le_refl W.heap.size
  obtain ⟨i0, hi0, hi1, hi2, hi3⟩ := info_parts infoP
  go_enter Tryd.func42, Tryd.ntmps42
  go_wp2_with fail
  refine (pw_22 _).mono ?_
  rintro e w1 ⟨rfl, hb1⟩
  have B1 := Lib.hid (B0.out.trans (hb1.mono g0))
  have g1 := Nat.le_trans g0 hb1.size
  clear hb1 B0 g0
  go_wp2_with fail
  refine (p_none ⟨#[112, 114, 101, 102]⟩ 5 _).mono ?_
  rintro e w2 ⟨rfl, hb1⟩
  have B2 := Lib.hid (B1.out.trans (hb1.mono g1))
  have g2 := Nat.le_trans g1 hb1.size
  clear hb1 B1 g1
  have HB := Lib.hid (B2.out.alloc g2 (.cells #[.string ⟨#[99, 111, 110, 116, 101, 120, 116, 115]⟩, .int .i64 17, .string ⟨#[112, 114, 105, 118, 97, 116, 101, 32, 119, 111, 114, 107]⟩, .bool false, .string ⟨#[]⟩, .string ⟨#[112, 114, 101, 102]⟩, .int .i64 5, .string ⟨#[]⟩, .bool false, .string ⟨#[]⟩] 41))
  have hgz : g < w2.heap.size := Nat.lt_of_lt_of_le hg g2
  have Hown1 := Lib.hid ((own_below Hown.out B2.out (Nat.le_refl _)).alloc (.cells #[.string ⟨#[99, 111, 110, 116, 101, 120, 116, 115]⟩, .int .i64 17, .string ⟨#[112, 114, 105, 118, 97, 116, 101, 32, 119, 111, 114, 107]⟩, .bool false, .string ⟨#[]⟩, .string ⟨#[112, 114, 101, 102]⟩, .int .i64 5, .string ⟨#[]⟩, .bool false, .string ⟨#[]⟩] 41))
  have Hzz : Hid (g ≤ (w2.alloc (.cells #[.string ⟨#[99, 111, 110, 116, 101, 120, 116, 115]⟩, .int .i64 17, .string ⟨#[112, 114, 105, 118, 97, 116, 101, 32, 119, 111, 114, 107]⟩, .bool false, .string ⟨#[]⟩, .string ⟨#[112, 114, 101, 102]⟩, .int .i64 5, .string ⟨#[]⟩, .bool false, .string ⟨#[]⟩] 41)).heap.size) := Lib.hid (by simp; omega)
  go_wp2_with (at_builtin; refine wpList_append_own _ rfl _ _ 38 rfl g 41 i0 _ 5 64 Tryd.underlying38 hi0 hi1 hi2 hi3 rfl (by decide) _ n _ rfl Hown1.out ⟨w2.heap.size, 0, none⟩ 2 2 (cellsP ([(.mk #[99, 111, 110, 116, 101, 120, 116, 115], 17, .mk #[112, 114, 105, 118, 97, 116, 101, 32, 119, 111, 114, 107], false, .mk #[]), (.mk #[112, 114, 101, 102], 5, .mk #[], false, .mk #[])] : List Prp)) rfl rfl ?c1 ?c2 ?c3 ?c4 Hzz.out ?_)
  case c1 =>
    intro j u hu
    rw [Addr.add_lit, Nat.zero_add]
    simp only [World.cell?_alloc_new]
    simpa [cellsP, encP] using hu
  case c2 => intro u hu; simp [cellsP, encP] at hu; rcases hu with rfl | rfl | rfl | rfl | rfl | rfl | rfl | rfl | rfl | rfl <;> rfl
  case c3 => simp only [maxLen]; omega
  case c4 => omega
  intro v' wx hown2 hgrow _
  have hbx := Below.grown (HB.out.mono (Nat.le_of_lt hg)) hgrow Hzz.out (fun k hk => by simp only [Value.ownBlock, Option.some.injEq] at hk; omega)
  obtain ⟨Ax, cx, rfl⟩ := own_form hown2
  obtain ⟨gx, rfl, hgx⟩ := own_some (by omega) hown2
  have hgx2 := own_lt hown2
  have HR := Lib.hid (rising_any g gx cx (n + 2) (d ++ ([(.mk #[99, 111, 110, 116, 101, 120, 116, 115], 17, .mk #[112, 114, 105, 118, 97, 116, 101, 32, 119, 111, 114, 107], false, .mk #[]), (.mk #[112, 114, 101, 102], 5, .mk #[], false, .mk #[])] : List Prp)) t wx (by unfold cellsP at *; rw [List.flatMap_append]; exact hown2) (by rw [List.length_append, hn]; rfl) hp htp hgx2 (by omega))
  clear hown2 hgrow
  have Hbx := Lib.hid hbx
  clear hbx
  go_wp2_with fail
  refine HR.out.mono ?_
  rintro e wy ⟨rfl, ho, hb⟩
  have Ho := Lib.hid ho
  have Hb := Lib.hid (Hbx.out.trans (hb.mono hgx))
  clear ho hb
  go_wp2_with fail
  go_ret
  exact ⟨_, _, rfl, Ho.out, Hb.out⟩
end Go.Proofs.YtijpbfafkdpolaaDoor
