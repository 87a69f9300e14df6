import Derived.Test.YtgijjmcjobjoeaaU1
import Derived.Test.YtgijjmcjobjoeaaBits
import Derived.StillTailTactics
import Derived.Laws.BytesArg
import Derived.Deep.CutBlock
import Derived.Deep.DeepCutAuto
namespace Go.Proofs.Ytgijjmcjobjoeaa
open Go.RowKit

/-- the bytes of a point; none: the number is none -/
def encL (p : Int) : List Int :=
  if p < 0 ∨ 1114111 < p ∨ (55296 ≤ p ∧ p ≤ 57343) then []
  else if p < 128 then [p]
  else if p < 2048 then [192 + p / 64, 128 + p % 64]
  else if p < 65536 then [224 + p / 4096, 128 + p / 64 % 64, 128 + p % 64]
  else [240 + p / 262144, 128 + p / 4096 % 64, 128 + p / 64 % 64, 128 + p % 64]

theorem conv_new (w : World) (g : Nat) (hg : g = w.heap.size) (xs : List Int) (n : Nat) (hn : xs.length = n) (cs : Array Value) (hcs : cs = (xs.map (Value.int .u8)).toArray) :
    (convert 42 9 (.slice (some ⟨g, 0, none⟩) n n)).run Try.prog (w.alloc (.cells cs 5)) = .ok (.string (strOfNums xs)) (w.alloc (.cells cs 5)) := by
  subst hg hcs
  refine run_convert_bytes_arg _ 42 5 Try.underlying42 Try.underlying5 w.heap.size 0 n n xs hn ?_ 9 Try.underlying9
  intro i hi
  rw [Nat.zero_add]
  have h : i < xs.length := by omega
  simp [World.cell?_alloc_new, List.getD, List.getElem?_eq_getElem h]

section
variable (g : Nat) (p : Int) (hp : 0 ≤ p ∧ p ≤ 1114111) (w : World) (hc : w.cell? ⟨g, 0, none⟩ = some (.int .i32 p))
include hp hc
set_option maxHeartbeats 400000 in
theorem low0 : Calls Try.prog 34 #[.int .u64 0, .pointer (some ⟨g, 0, none⟩)] w fun e w' => e = .returned (.int .u8 (128 + p % 64)) ∧ w' = w := by
  have e1 := i32_and63 p (by omega)
  have e2 := or_128 (p % 64) (by omega)
  go_enter Try.func34, Try.ntmps34
  go_wp2
  go_ret
  exact ⟨ret_int (by omega), rfl⟩
set_option maxHeartbeats 400000 in
theorem low6 : Calls Try.prog 34 #[.int .u64 6, .pointer (some ⟨g, 0, none⟩)] w fun e w' => e = .returned (.int .u8 (128 + p / 64 % 64)) ∧ w' = w := by
  have e1 := i32_and63 (p / 64) (by omega)
  have e2 := or_128 (p / 64 % 64) (by omega)
  go_enter Try.func34, Try.ntmps34
  go_wp2
  go_ret
  exact ⟨ret_int (by omega), rfl⟩
set_option maxHeartbeats 400000 in
theorem low12 : Calls Try.prog 34 #[.int .u64 12, .pointer (some ⟨g, 0, none⟩)] w fun e w' => e = .returned (.int .u8 (128 + p / 4096 % 64)) ∧ w' = w := by
  have e1 := i32_and63 (p / 4096) (by omega)
  have e2 := or_128 (p / 4096 % 64) (by omega)
  go_enter Try.func34, Try.ntmps34
  go_wp2
  go_ret
  exact ⟨ret_int (by omega), rfl⟩
end

theorem ret_str {a b : ByteArray} (h : a = b) : Ending.returned (.string a) = .returned (.string b) := by rw [h]

set_option maxRecDepth 100000 in
set_option maxHeartbeats 1000000 in
theorem put_any (p : Int) (hp : -2147483648 ≤ p ∧ p ≤ 2147483647) (w : World) :
    Calls Try.prog 21 #[.int .i32 p] w fun e w' => e = .returned (.string (strOfNums (encL p))) ∧ Below w.heap.size w w' := by
  have hB := (Below.refl w.heap.size w).alloc (Nat.le_refl _) (.cells #[.int .i32 p] 21)
  have HB := Lib.hid hB
  clear hB
  by_cases h0 : p < 0 ∨ 1114111 < p ∨ (55296 ≤ p ∧ p ≤ 57343)
  · have he : encL p = [] := by unfold encL; rw [if_pos h0]
    have He := Lib.hid he
    clear he
    rcases h0 with h0 | h0 | h0
    all_goals
      go_enter Try.func21, Try.ntmps21
      go_wp2
      go_ret
      exact ⟨ret_str (by rw [He.out]; rfl), HB.out⟩
  by_cases h1 : p < 128
  · have he : encL p = [p] := by unfold encL; rw [if_neg h0, if_pos h1]
    have He := Lib.hid he
    clear he
    have hcv := conv_new (w.alloc (.cells #[.int .i32 p] 21)) (w.heap.size + 1) (by simp) [p] 1 rfl #[.int .u8 p] rfl
    have hp0 : 0 ≤ p := by omega
    clear h0
    go_enter Try.func21, Try.ntmps21
    go_wp2
    go_ret
    exact ⟨ret_str (by rw [He.out]), HB.out.alloc (by simp) _⟩
  by_cases h2 : p < 2048
  · have he : encL p = [192 + p / 64, 128 + p % 64] := by unfold encL; rw [if_neg h0, if_neg h1, if_pos h2]
    have He := Lib.hid he
    have hp0 : 0 ≤ p := by omega
    clear he h0
    have e2 := or_192 (p / 64) (by omega)
    have e3 : IntKind.u8.wrap (192 + p / 64) = 192 + p / 64 := by simp only [IntKind.wrap_u8]; omega
    go_enter Try.func21, Try.ntmps21
    go_wp2_with fail
    have hc0 : (w.alloc (.cells #[.int .i32 p] 21)).cell? ⟨w.heap.size, 0, none⟩ = some (.int .i32 p) := by simp [World.cell?_alloc_new]
    have hz0 : (w.alloc (.cells #[.int .i32 p] 21)).heap.size = w.heap.size + 1 := by simp
    generalize w.alloc (.cells #[.int .i32 p] 21) = W at *
    have Hz := Lib.hid hz0
    clear hz0
    refine wp_region_still_tail 6 (by kernel_rfl) (by kernel_rfl) ?_
    simp only [List.take_succ_cons, List.take_zero, List.drop_succ_cons, List.drop_zero]
    rw [show ({ W with drawn := W.drawn + 1 } : World) = W.drew from rfl]
    repeat still_step
    still_call (low0 w.heap.size p (by omega) _ hc0)
    repeat still_step
    refine wpStill_nil ?_
    have HB2 := Lib.hid HB.out.drew
    have Hz2 : Hid (W.drew.heap.size = w.heap.size + 1) := Hz.out
    generalize W.drew = w2 at *
    have hcv := conv_new w2 w2.heap.size rfl [192 + p / 64, 128 + p % 64] 2 rfl #[.int .u8 (192 + p / 64), .int .u8 (128 + p % 64)] rfl
    go_wp2
    go_ret
    exact ⟨ret_str (by rw [He.out]), HB2.out.alloc (by rw [Hz2.out]; omega) _⟩
  by_cases h3 : p < 65536
  · have he : encL p = [224 + p / 4096, 128 + p / 64 % 64, 128 + p % 64] := by unfold encL; rw [if_neg h0, if_neg h1, if_neg h2, if_pos h3]
    have He := Lib.hid he
    have hp0 : 0 ≤ p := by omega
    have hsur : p < 55296 ∨ 57343 < p := by omega
    have hsur2 : (decide (55296 ≤ p) && decide (p ≤ 57343)) = false := by simp; omega
    clear he h0
    have e2 := or_224 (p / 4096) (by omega)
    have e3 : IntKind.u8.wrap (224 + p / 4096) = 224 + p / 4096 := by simp only [IntKind.wrap_u8]; omega
    rcases hsur with hsur | hsur
    · go_enter Try.func21, Try.ntmps21
      go_wp2_with fail
      have hc0 : (w.alloc (.cells #[.int .i32 p] 21)).cell? ⟨w.heap.size, 0, none⟩ = some (.int .i32 p) := by simp [World.cell?_alloc_new]
      have hz0 : (w.alloc (.cells #[.int .i32 p] 21)).heap.size = w.heap.size + 1 := by simp
      generalize w.alloc (.cells #[.int .i32 p] 21) = W at *
      have Hz := Lib.hid hz0
      clear hz0
      refine wp_region_still_tail 8 (by kernel_rfl) (by kernel_rfl) ?_
      simp only [List.take_succ_cons, List.take_zero, List.drop_succ_cons, List.drop_zero]
      rw [show ({ W with drawn := W.drawn + 1 } : World) = W.drew from rfl]
      repeat still_step
      still_call (low6 w.heap.size p (by omega) _ hc0)
      repeat still_step
      still_call (low0 w.heap.size p (by omega) _ hc0)
      repeat still_step
      refine wpStill_nil ?_
      have HB2 := Lib.hid HB.out.drew
      have Hz2 : Hid (W.drew.heap.size = w.heap.size + 1) := Hz.out
      generalize W.drew = w2 at *
      have hcv := conv_new w2 w2.heap.size rfl [224 + p / 4096, 128 + p / 64 % 64, 128 + p % 64] 3 rfl #[.int .u8 (224 + p / 4096), .int .u8 (128 + p / 64 % 64), .int .u8 (128 + p % 64)] rfl
      go_wp2
      go_ret
      exact ⟨ret_str (by rw [He.out]), HB2.out.alloc (by rw [Hz2.out]; omega) _⟩
    · go_enter Try.func21, Try.ntmps21
      go_wp2_with fail
      have hc0 : (w.alloc (.cells #[.int .i32 p] 21)).cell? ⟨w.heap.size, 0, none⟩ = some (.int .i32 p) := by simp [World.cell?_alloc_new]
      have hz0 : (w.alloc (.cells #[.int .i32 p] 21)).heap.size = w.heap.size + 1 := by simp
      generalize w.alloc (.cells #[.int .i32 p] 21) = W at *
      have Hz := Lib.hid hz0
      clear hz0
      refine wp_region_still_tail 8 (by kernel_rfl) (by kernel_rfl) ?_
      simp only [List.take_succ_cons, List.take_zero, List.drop_succ_cons, List.drop_zero]
      rw [show ({ W with drawn := W.drawn + 1 } : World) = W.drew from rfl]
      repeat still_step
      still_call (low6 w.heap.size p (by omega) _ hc0)
      repeat still_step
      still_call (low0 w.heap.size p (by omega) _ hc0)
      repeat still_step
      refine wpStill_nil ?_
      have HB2 := Lib.hid HB.out.drew
      have Hz2 : Hid (W.drew.heap.size = w.heap.size + 1) := Hz.out
      generalize W.drew = w2 at *
      have hcv := conv_new w2 w2.heap.size rfl [224 + p / 4096, 128 + p / 64 % 64, 128 + p % 64] 3 rfl #[.int .u8 (224 + p / 4096), .int .u8 (128 + p / 64 % 64), .int .u8 (128 + p % 64)] rfl
      go_wp2
      go_ret
      exact ⟨ret_str (by rw [He.out]), HB2.out.alloc (by rw [Hz2.out]; omega) _⟩
  have he : encL p = [240 + p / 262144, 128 + p / 4096 % 64, 128 + p / 64 % 64, 128 + p % 64] := by unfold encL; rw [if_neg h0, if_neg h1, if_neg h2, if_neg h3]
  have He := Lib.hid he
  have hp0 : 0 ≤ p := by omega
  have hp1 : p ≤ 1114111 := by omega
  clear he h0
  have e2 := or_240 (p / 262144) (by omega)
  have e3 : IntKind.u8.wrap (240 + p / 262144) = 240 + p / 262144 := by simp only [IntKind.wrap_u8]; omega
  go_enter Try.func21, Try.ntmps21
  go_wp2_with fail
  have hc0 : (w.alloc (.cells #[.int .i32 p] 21)).cell? ⟨w.heap.size, 0, none⟩ = some (.int .i32 p) := by simp [World.cell?_alloc_new]
  have hz0 : (w.alloc (.cells #[.int .i32 p] 21)).heap.size = w.heap.size + 1 := by simp
  generalize w.alloc (.cells #[.int .i32 p] 21) = W at *
  have Hz := Lib.hid hz0
  clear hz0
  refine wp_region_still_tail 10 (by kernel_rfl) (by kernel_rfl) ?_
  simp only [List.take_succ_cons, List.take_zero, List.drop_succ_cons, List.drop_zero]
  rw [show ({ W with drawn := W.drawn + 1 } : World) = W.drew from rfl]
  repeat still_step
  still_call (low12 w.heap.size p (by omega) _ hc0)
  repeat still_step
  still_call (low6 w.heap.size p (by omega) _ hc0)
  repeat still_step
  still_call (low0 w.heap.size p (by omega) _ hc0)
  repeat still_step
  refine wpStill_nil ?_
  have HB2 := Lib.hid HB.out.drew
  have Hz2 : Hid (W.drew.heap.size = w.heap.size + 1) := Hz.out
  generalize W.drew = w2 at *
  have hcv := conv_new w2 w2.heap.size rfl [240 + p / 262144, 128 + p / 4096 % 64, 128 + p / 64 % 64, 128 + p % 64] 4 rfl #[.int .u8 (240 + p / 262144), .int .u8 (128 + p / 4096 % 64), .int .u8 (128 + p / 64 % 64), .int .u8 (128 + p % 64)] rfl
  go_wp2
  go_ret
  exact ⟨ret_str (by rw [He.out]), HB2.out.alloc (by rw [Hz2.out]; omega) _⟩
end Go.Proofs.Ytgijjmcjobjoeaa
