import Derived.Test.YtebfnglhbfkkdaaRows
import Derived.WalkKit
import Derived.WalkSpells
import Derived.WalkLawsBesides
import Derived.Deep.QuietTactic
import Derived.BigQuiet
import Derived.Laws.BytesArg
import Derived.Lib.ConvBytes
import Derived.Test.YtebfnglhbfkkdaaMem
import Derived.Test.YtebfnglhbfkkdaaMem2
namespace Go.Proofs.Ytebfnglhbfkkdaa
open Go.RowKit

/-- a byte, small -/
def smF (c : Int) : Int := if 65 ≤ c ∧ c ≤ 90 then c + 32 else c
/-- a text's bytes as numbers -/
def nums (s : ByteArray) : List Int := s.data.toList.map fun b => (b.toNat : Int)
theorem nums_len (s : ByteArray) : (nums s).length = s.size := by simp [nums]
theorem nums_bd (s : ByteArray) : ∀ x ∈ nums s, 0 ≤ x ∧ x ≤ 255 := by
  intro x hx
  obtain ⟨b, _, rfl⟩ := List.mem_map.1 hx
  have := b.toNat_lt
  omega
theorem nums_str (xs : List Int) (h : ∀ x ∈ xs, 0 ≤ x ∧ x ≤ 255) : nums (strOfNums xs) = xs := by
  unfold nums
  rw [strOfNums_data, List.map_map]
  conv => rhs; rw [← List.map_id xs]
  apply List.map_congr_left
  intro x hx
  have := h x hx
  simp only [Function.comp_apply, UInt8.toNat_ofNat', id]
  omega
theorem str_nums (s : ByteArray) : strOfNums (nums s) = s := by
  apply bytes_ext
  rw [strOfNums_data]
  unfold nums
  rw [List.map_map]
  conv => rhs; rw [← List.map_id s.data.toList]
  apply List.map_congr_left
  intro b _
  simp
/-- a text, small -/
def foldS (s : ByteArray) : ByteArray := strOfNums ((nums s).map smF)

set_option maxHeartbeats 400000 in
theorem small_any (c : Int) (hc : 0 ≤ c ∧ c ≤ 255) (w : World) :
    Calls Try.prog 21 #[.int .u8 c] w fun e w' => e = .returned (.int .u8 (smF c)) ∧ w = w' := by
  by_cases h1 : 65 ≤ c
  · by_cases h2 : c ≤ 90
    · go_enter Try.func21, Try.ntmps21
      go_wp2
      go_ret
      exact ⟨ret_int (by unfold smF; rw [if_pos ⟨h1, h2⟩]), rfl⟩
    · go_enter Try.func21, Try.ntmps21
      go_wp2
      go_ret
      exact ⟨ret_int (by unfold smF; rw [if_neg (by omega)]), rfl⟩
  · go_enter Try.func21, Try.ntmps21
    go_wp2
    go_ret
    exact ⟨ret_int (by unfold smF; rw [if_neg (by omega)]), rfl⟩

/-- block g holds the bytes xs from its head on, and they may be written -/
def Row8 (w : World) (g : Nat) (xs : List Int) : Prop :=
  ∀ j x, xs[j]? = some x → w.cell? ⟨g, j, none⟩ = some (.int .u8 x) ∧ w.frozen? ⟨g, j, none⟩ = false
theorem Row8.set {w : World} {g : Nat} {xs : List Int} (h : Row8 w g xs) (k : Nat) (hk : k < xs.length) (x : Int) : Row8 (w.setCell ⟨g, k, none⟩ (.int .u8 x)) g (xs.set k x) := by
  intro j y hy
  have hk0 := h k xs[k] (List.getElem?_eq_getElem hk)
  by_cases hj : j = k
  · subst hj
    rw [List.getElem?_set_self hk] at hy
    injection hy with hy
    subst hy
    exact ⟨World.cell?_setCell_same _ _ _ hk0.1, by rw [World.frozen?_setCell]; exact hk0.2⟩
  · rw [List.getElem?_set_ne (fun e => hj e.symm)] at hy
    have h1 := h j y hy
    exact ⟨by rw [World.cell?_setCell_other _ _ _ _ (fun e => by injection e with _ e2; exact hj e2.symm)]; exact h1.1, by rw [World.frozen?_setCell]; exact h1.2⟩
def foldK (xs : List Int) (k : Nat) : List Int := (xs.take k).map smF ++ xs.drop k
theorem foldK_len (xs : List Int) (k : Nat) : (foldK xs k).length = xs.length := by
  unfold foldK; simp only [List.length_append, List.length_map, List.length_take, List.length_drop]; omega
theorem foldK_at (xs : List Int) (k : Nat) (h : k < xs.length) : (foldK xs k)[k]? = some xs[k] := by
  unfold foldK
  rw [List.getElem?_append_right (by rw [List.length_map, List.length_take]; omega), List.length_map, List.length_take, Nat.min_eq_left (by omega), Nat.sub_self, List.getElem?_drop, Nat.add_zero]
  exact List.getElem?_eq_getElem h
theorem foldK_step (xs : List Int) (k : Nat) (h : k < xs.length) : (foldK xs k).set k (smF xs[k]) = foldK xs (k + 1) := by
  unfold foldK
  rw [List.set_append_right _ _ (by rw [List.length_map, List.length_take]; omega), List.length_map, List.length_take, Nat.min_eq_left (by omega), Nat.sub_self, take_succ_eq xs k h, List.map_append, List.drop_eq_getElem_cons h, List.set_cons_zero, List.append_assoc]
  rfl
theorem foldK_end (xs : List Int) : foldK xs xs.length = xs.map smF := by unfold foldK; simp
theorem foldK_zero (xs : List Int) : foldK xs 0 = xs := by unfold foldK; simp
end Go.Proofs.Ytebfnglhbfkkdaa
