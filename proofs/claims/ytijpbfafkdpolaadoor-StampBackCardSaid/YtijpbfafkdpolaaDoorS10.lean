import Derived.Test.YtijpbfafkdpolaaDoorS9
import Derived.Test.YtijpbfafkdpolaaDoorP3
namespace Go.Proofs.YtijpbfafkdpolaaDoor
open Go.RowKit Go.Shelf

theorem ret_u8 {a b : Int} (h : a = b) : Ending.returned (.int .u8 a) = .returned (.int .u8 b) := by rw [h]
set_option maxHeartbeats 1000000 in
theorem digit_any (n : Int) (h0 : 0 ≤ n) (h1 : n ≤ 9) (w : World) : Calls Tryd.prog 63 #[.int .i64 n] w fun e w' => e = .returned (.int .u8 (48 + n)) ∧ w = w' := by
  go_enter Tryd.func63, Tryd.ntmps63
  go_wp2_with fail
  go_ret
  exact ⟨ret_u8 (by omega), rfl⟩

set_option maxRecDepth 100000 in
set_option maxHeartbeats 4000000 in
theorem put3_any (n : Int) (h0 : 100 ≤ n) (h1 : n ≤ 199) (w : World) : Calls Tryd.prog 48 #[.int .i64 n] w fun e w' => e = .returned (.string (strOfNums [48 + n / 10 / 10 % 10, 48 + n / 10 % 10, 48 + n % 10])) ∧ Below w.heap.size w w' := by
  have hcv : (convert 34 9 (.slice (some ⟨w.heap.size, 17, none⟩) 3 3)).run Tryd.prog (w.alloc (.cells #[.int .u8 0, .int .u8 0, .int .u8 0, .int .u8 0, .int .u8 0, .int .u8 0, .int .u8 0, .int .u8 0, .int .u8 0, .int .u8 0, .int .u8 0, .int .u8 0, .int .u8 0, .int .u8 0, .int .u8 0, .int .u8 0, .int .u8 0, .int .u8 (48 + n / 10 / 10 % 10), .int .u8 (48 + n / 10 % 10), .int .u8 (48 + n % 10)] 73)) = .ok (.string (strOfNums [48 + n / 10 / 10 % 10, 48 + n / 10 % 10, 48 + n % 10])) (w.alloc (.cells #[.int .u8 0, .int .u8 0, .int .u8 0, .int .u8 0, .int .u8 0, .int .u8 0, .int .u8 0, .int .u8 0, .int .u8 0, .int .u8 0, .int .u8 0, .int .u8 0, .int .u8 0, .int .u8 0, .int .u8 0, .int .u8 0, .int .u8 0, .int .u8 (48 + n / 10 / 10 % 10), .int .u8 (48 + n / 10 % 10), .int .u8 (48 + n % 10)] 73)) := by
    refine run_convert_bytes_arg _ 34 5 Tryd.underlying34 Tryd.underlying5 w.heap.size 17 3 3 [48 + n / 10 / 10 % 10, 48 + n / 10 % 10, 48 + n % 10] rfl ?_ 9 Tryd.underlying9
    intro i hi
    match i, hi with
    | 0, _ | 1, _ | 2, _ => simp [World.cell?_alloc_new]
  go_enter Tryd.func48, Tryd.ntmps48
  go_wp2_with fail
  go_loopw [4, 5] (fun t4 t5 wr => (t4 = .int .i64 20 ∧ t5 = .int .i64 (n) ∧ wr = w.alloc (.cells #[.int .u8 0, .int .u8 0, .int .u8 0, .int .u8 0, .int .u8 0, .int .u8 0, .int .u8 0, .int .u8 0, .int .u8 0, .int .u8 0, .int .u8 0, .int .u8 0, .int .u8 0, .int .u8 0, .int .u8 0, .int .u8 0, .int .u8 0, .int .u8 0, .int .u8 0, .int .u8 0] 73)) ∨ (t4 = .int .i64 19 ∧ t5 = .int .i64 (n / 10) ∧ wr = w.alloc (.cells #[.int .u8 0, .int .u8 0, .int .u8 0, .int .u8 0, .int .u8 0, .int .u8 0, .int .u8 0, .int .u8 0, .int .u8 0, .int .u8 0, .int .u8 0, .int .u8 0, .int .u8 0, .int .u8 0, .int .u8 0, .int .u8 0, .int .u8 0, .int .u8 0, .int .u8 0, .int .u8 (48 + n % 10)] 73)) ∨ (t4 = .int .i64 18 ∧ t5 = .int .i64 (n / 10 / 10) ∧ wr = w.alloc (.cells #[.int .u8 0, .int .u8 0, .int .u8 0, .int .u8 0, .int .u8 0, .int .u8 0, .int .u8 0, .int .u8 0, .int .u8 0, .int .u8 0, .int .u8 0, .int .u8 0, .int .u8 0, .int .u8 0, .int .u8 0, .int .u8 0, .int .u8 0, .int .u8 0, .int .u8 (48 + n / 10 % 10), .int .u8 (48 + n % 10)] 73))) (fun _ t5 _ => (intOf t5).toNat)
  case atStart => exact .inl ⟨rfl, rfl, rfl⟩
  case round =>
    rcases hrel with ⟨rfl, rfl, rfl⟩ | ⟨rfl, rfl, rfl⟩ | ⟨rfl, rfl, rfl⟩
    · go_wp2_with (refine (digit_any (n % 10) (by omega) (by omega) _).mono ?_; rintro e w1 ⟨rfl, rfl⟩)
      go_roundw
      case rel => exact .inr (.inl ⟨rfl, rfl, trivial⟩)
      case measure => simp only [intOf]; omega
    · go_wp2_with (refine (digit_any (n / 10 % 10) (by omega) (by omega) _).mono ?_; rintro e w1 ⟨rfl, rfl⟩)
      go_roundw
      case rel => exact .inr (.inr (⟨rfl, rfl, trivial⟩))
      case measure => simp only [intOf]; omega
    · go_wp2_with (refine (digit_any (n / 10 / 10 % 10) (by omega) (by omega) _).mono ?_; rintro e w1 ⟨rfl, rfl⟩)
      go_ret
      exact ⟨rfl, (Below.refl _ _).alloc (Nat.le_refl _) _⟩
set_option maxRecDepth 100000 in
set_option maxHeartbeats 4000000 in
theorem put5_any (n : Int) (h0 : 10000 ≤ n) (h1 : n ≤ 19999) (w : World) : Calls Tryd.prog 48 #[.int .i64 n] w fun e w' => e = .returned (.string (strOfNums [48 + n / 10 / 10 / 10 / 10 % 10, 48 + n / 10 / 10 / 10 % 10, 48 + n / 10 / 10 % 10, 48 + n / 10 % 10, 48 + n % 10])) ∧ Below w.heap.size w w' := by
  have hcv : (convert 34 9 (.slice (some ⟨w.heap.size, 15, none⟩) 5 5)).run Tryd.prog (w.alloc (.cells #[.int .u8 0, .int .u8 0, .int .u8 0, .int .u8 0, .int .u8 0, .int .u8 0, .int .u8 0, .int .u8 0, .int .u8 0, .int .u8 0, .int .u8 0, .int .u8 0, .int .u8 0, .int .u8 0, .int .u8 0, .int .u8 (48 + n / 10 / 10 / 10 / 10 % 10), .int .u8 (48 + n / 10 / 10 / 10 % 10), .int .u8 (48 + n / 10 / 10 % 10), .int .u8 (48 + n / 10 % 10), .int .u8 (48 + n % 10)] 73)) = .ok (.string (strOfNums [48 + n / 10 / 10 / 10 / 10 % 10, 48 + n / 10 / 10 / 10 % 10, 48 + n / 10 / 10 % 10, 48 + n / 10 % 10, 48 + n % 10])) (w.alloc (.cells #[.int .u8 0, .int .u8 0, .int .u8 0, .int .u8 0, .int .u8 0, .int .u8 0, .int .u8 0, .int .u8 0, .int .u8 0, .int .u8 0, .int .u8 0, .int .u8 0, .int .u8 0, .int .u8 0, .int .u8 0, .int .u8 (48 + n / 10 / 10 / 10 / 10 % 10), .int .u8 (48 + n / 10 / 10 / 10 % 10), .int .u8 (48 + n / 10 / 10 % 10), .int .u8 (48 + n / 10 % 10), .int .u8 (48 + n % 10)] 73)) := by
    refine run_convert_bytes_arg _ 34 5 Tryd.underlying34 Tryd.underlying5 w.heap.size 15 5 5 [48 + n / 10 / 10 / 10 / 10 % 10, 48 + n / 10 / 10 / 10 % 10, 48 + n / 10 / 10 % 10, 48 + n / 10 % 10, 48 + n % 10] rfl ?_ 9 Tryd.underlying9
    intro i hi
    match i, hi with
    | 0, _ | 1, _ | 2, _ | 3, _ | 4, _ => simp [World.cell?_alloc_new]
  go_enter Tryd.func48, Tryd.ntmps48
  go_wp2_with fail
  go_loopw [4, 5] (fun t4 t5 wr => (t4 = .int .i64 20 ∧ t5 = .int .i64 (n) ∧ wr = w.alloc (.cells #[.int .u8 0, .int .u8 0, .int .u8 0, .int .u8 0, .int .u8 0, .int .u8 0, .int .u8 0, .int .u8 0, .int .u8 0, .int .u8 0, .int .u8 0, .int .u8 0, .int .u8 0, .int .u8 0, .int .u8 0, .int .u8 0, .int .u8 0, .int .u8 0, .int .u8 0, .int .u8 0] 73)) ∨ (t4 = .int .i64 19 ∧ t5 = .int .i64 (n / 10) ∧ wr = w.alloc (.cells #[.int .u8 0, .int .u8 0, .int .u8 0, .int .u8 0, .int .u8 0, .int .u8 0, .int .u8 0, .int .u8 0, .int .u8 0, .int .u8 0, .int .u8 0, .int .u8 0, .int .u8 0, .int .u8 0, .int .u8 0, .int .u8 0, .int .u8 0, .int .u8 0, .int .u8 0, .int .u8 (48 + n % 10)] 73)) ∨ (t4 = .int .i64 18 ∧ t5 = .int .i64 (n / 10 / 10) ∧ wr = w.alloc (.cells #[.int .u8 0, .int .u8 0, .int .u8 0, .int .u8 0, .int .u8 0, .int .u8 0, .int .u8 0, .int .u8 0, .int .u8 0, .int .u8 0, .int .u8 0, .int .u8 0, .int .u8 0, .int .u8 0, .int .u8 0, .int .u8 0, .int .u8 0, .int .u8 0, .int .u8 (48 + n / 10 % 10), .int .u8 (48 + n % 10)] 73)) ∨ (t4 = .int .i64 17 ∧ t5 = .int .i64 (n / 10 / 10 / 10) ∧ wr = w.alloc (.cells #[.int .u8 0, .int .u8 0, .int .u8 0, .int .u8 0, .int .u8 0, .int .u8 0, .int .u8 0, .int .u8 0, .int .u8 0, .int .u8 0, .int .u8 0, .int .u8 0, .int .u8 0, .int .u8 0, .int .u8 0, .int .u8 0, .int .u8 0, .int .u8 (48 + n / 10 / 10 % 10), .int .u8 (48 + n / 10 % 10), .int .u8 (48 + n % 10)] 73)) ∨ (t4 = .int .i64 16 ∧ t5 = .int .i64 (n / 10 / 10 / 10 / 10) ∧ wr = w.alloc (.cells #[.int .u8 0, .int .u8 0, .int .u8 0, .int .u8 0, .int .u8 0, .int .u8 0, .int .u8 0, .int .u8 0, .int .u8 0, .int .u8 0, .int .u8 0, .int .u8 0, .int .u8 0, .int .u8 0, .int .u8 0, .int .u8 0, .int .u8 (48 + n / 10 / 10 / 10 % 10), .int .u8 (48 + n / 10 / 10 % 10), .int .u8 (48 + n / 10 % 10), .int .u8 (48 + n % 10)] 73))) (fun _ t5 _ => (intOf t5).toNat)
  case atStart => exact .inl ⟨rfl, rfl, rfl⟩
  case round =>
    rcases hrel with ⟨rfl, rfl, rfl⟩ | ⟨rfl, rfl, rfl⟩ | ⟨rfl, rfl, rfl⟩ | ⟨rfl, rfl, rfl⟩ | ⟨rfl, rfl, rfl⟩
    · go_wp2_with (refine (digit_any (n % 10) (by omega) (by omega) _).mono ?_; rintro e w1 ⟨rfl, rfl⟩)
      go_roundw
      case rel => exact .inr (.inl ⟨rfl, rfl, trivial⟩)
      case measure => simp only [intOf]; omega
    · go_wp2_with (refine (digit_any (n / 10 % 10) (by omega) (by omega) _).mono ?_; rintro e w1 ⟨rfl, rfl⟩)
      go_roundw
      case rel => exact .inr (.inr (.inl ⟨rfl, rfl, trivial⟩))
      case measure => simp only [intOf]; omega
    · go_wp2_with (refine (digit_any (n / 10 / 10 % 10) (by omega) (by omega) _).mono ?_; rintro e w1 ⟨rfl, rfl⟩)
      go_roundw
      case rel => exact .inr (.inr (.inr (.inl ⟨rfl, rfl, trivial⟩)))
      case measure => simp only [intOf]; omega
    · go_wp2_with (refine (digit_any (n / 10 / 10 / 10 % 10) (by omega) (by omega) _).mono ?_; rintro e w1 ⟨rfl, rfl⟩)
      go_roundw
      case rel => exact .inr (.inr (.inr (.inr (⟨rfl, rfl, trivial⟩))))
      case measure => simp only [intOf]; omega
    · go_wp2_with (refine (digit_any (n / 10 / 10 / 10 / 10 % 10) (by omega) (by omega) _).mono ?_; rintro e w1 ⟨rfl, rfl⟩)
      go_ret
      exact ⟨rfl, (Below.refl _ _).alloc (Nat.le_refl _) _⟩
theorem strOfNums_tail (x : Int) (l : List Int) : (strOfNums (x :: l)).extract 1 (strOfNums (x :: l)).size = strOfNums l := by
  apply bytes_ext
  rw [ByteArray.data_extract, Array.toList_extract]
  have e : (strOfNums (x :: l)).size - 1 = l.length := by rw [strOfNums_size]; simp
  rw [List.extract_eq_take_drop, e]
  simp [strOfNums]
  exact List.take_of_length_le (by simp)
theorem two_eq (x : Int) (h0 : 0 ≤ x) (h1 : x ≤ 99) : [48 + (100 + x) / 10 / 10 % 10, 48 + (100 + x) / 10 % 10, 48 + (100 + x) % 10] = (49 : Int) :: twoL x := by
  unfold twoL
  simp only [List.cons.injEq, and_true]
  omega
theorem four_eq (x : Int) (h0 : 0 ≤ x) (h1 : x ≤ 9999) : [48 + (10000 + x) / 10 / 10 / 10 / 10 % 10, 48 + (10000 + x) / 10 / 10 / 10 % 10, 48 + (10000 + x) / 10 / 10 % 10, 48 + (10000 + x) / 10 % 10, 48 + (10000 + x) % 10] = (49 : Int) :: fourL x := by
  unfold fourL
  simp only [List.cons.injEq, and_true]
  omega
theorem ret_str {a b : ByteArray} (h : a = b) : Ending.returned (.string a) = .returned (.string b) := by rw [h]
set_option maxHeartbeats 1000000 in
theorem two_any (x : Int) (h0 : 0 ≤ x) (h1 : x ≤ 99) (w : World) : Calls Tryd.prog 31 #[.int .i64 x] w fun e w' => e = .returned (.string (strOfNums (twoL x))) ∧ Below w.heap.size w w' := by
  have He := Lib.hid (two_eq x h0 h1)
  obtain ⟨S, hS⟩ : ∃ S, strOfNums ((49 : Int) :: twoL x) = S := ⟨_, rfl⟩
  have HE : Hid (S.extract 1 S.size = strOfNums (twoL x)) := Lib.hid (by rw [← hS]; exact strOfNums_tail _ _)
  have hz : 1 ≤ S.size := by rw [← hS, strOfNums_size]; simp
  have HS := Lib.hid hS
  clear hS
  go_enter Tryd.func31, Tryd.ntmps31
  go_wp2_with fail
  refine (put3_any (100 + x) (by omega) (by omega) _).mono ?_
  rw [He.out, HS.out]
  rintro e w1 ⟨rfl, hb1⟩
  have Hb1 := Lib.hid hb1
  clear hb1
  go_wp2_with fail
  go_ret
  exact ⟨ret_str HE.out, Hb1.out⟩
set_option maxHeartbeats 1000000 in
theorem four_any (x : Int) (h0 : 0 ≤ x) (h1 : x ≤ 9999) (w : World) : Calls Tryd.prog 30 #[.int .i64 x] w fun e w' => e = .returned (.string (strOfNums (fourL x))) ∧ Below w.heap.size w w' := by
  have He := Lib.hid (four_eq x h0 h1)
  obtain ⟨S, hS⟩ : ∃ S, strOfNums ((49 : Int) :: fourL x) = S := ⟨_, rfl⟩
  have HE : Hid (S.extract 1 S.size = strOfNums (fourL x)) := Lib.hid (by rw [← hS]; exact strOfNums_tail _ _)
  have hz : 1 ≤ S.size := by rw [← hS, strOfNums_size]; simp
  have HS := Lib.hid hS
  clear hS
  go_enter Tryd.func30, Tryd.ntmps30
  go_wp2_with fail
  refine (put5_any (10000 + x) (by omega) (by omega) _).mono ?_
  rw [He.out, HS.out]
  rintro e w1 ⟨rfl, hb1⟩
  have Hb1 := Lib.hid hb1
  clear hb1
  go_wp2_with fail
  go_ret
  exact ⟨ret_str HE.out, Hb1.out⟩
end Go.Proofs.YtijpbfafkdpolaaDoor
