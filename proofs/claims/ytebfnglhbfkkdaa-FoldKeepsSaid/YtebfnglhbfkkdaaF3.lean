import Derived.Test.YtebfnglhbfkkdaaF2
import Derived.Test.YtebfnglhbfkkdaaShelf
import Derived.Lib.IndexMore
namespace Go.Proofs.Ytebfnglhbfkkdaa
open Go.RowKit

theorem foldS_size (s : ByteArray) : (foldS s).size = s.size := by
  have h : (foldS s).data.toList.length = s.data.toList.length := by
    unfold foldS nums
    rw [strOfNums_data]
    simp
  simpa using h

/-- the cell of the package's own variable holds a number, here and wherever older cells stand -/
def MaxAt (w : World) : Prop := ∃ m, w.cell? ⟨0, 0, none⟩ = some (.int .i64 m)

def cmpF (a b : ByteArray) : Int := Lib.compareBytes (foldS a).data.toList (foldS b).data.toList
def hasF (a b : ByteArray) : Bool := Lib.contains (foldS a).data.toList (foldS b).data.toList

theorem Below.trans' {B : Nat} {w w1 w2 : World} (h : Below B w w1) (h2 : Below w1.heap.size w1 w2) (hB : B ≤ w1.heap.size) : Below B w w2 := h.trans (h2.mono hB)

set_option maxHeartbeats 400000 in
theorem comp_any (a b : ByteArray) (ha : a.size ≤ 140737488355328) (hb : b.size ≤ 140737488355328) (w : World) :
    Calls Try.prog 14 #[.string a, .string b] w fun e w' => e = .returned (.int .i64 (cmpF a b)) ∧ Below w.heap.size w w' := by
  go_enter Try.func14, Try.ntmps14
  go_wp2_with fail
  refine (fold_any a (by omega) _).mono ?_
  rintro e w1 ⟨rfl, hb1⟩
  go_wp2_with fail
  refine (fold_any b (by omega) _).mono ?_
  rintro e w2 ⟨rfl, hb2⟩
  go_wp2_with fail
  refine (Try.strings_Compare _ _ _).mono ?_
  rintro e w3 ⟨rfl, rfl⟩
  go_wp2_with fail
  go_ret
  exact ⟨rfl, hb1.trans (hb2.mono hb1.size)⟩

theorem occ_eq (a b : ByteArray) (i : Nat) (h : i + b.size ≤ a.size) : a.extract i (i + b.size) = b ↔ Lib.occAt a.data.toList b.data.toList i = true := by
  have hd : (a.extract i (i + b.size)).data.toList = (a.data.toList.drop i).take b.size := by
    rw [ByteArray.data_extract, Array.toList_extract, List.extract_eq_take_drop, show i + b.size - i = b.size from by omega]
  have hbl : b.data.toList.length = b.size := by simp
  unfold Lib.occAt
  rw [List.isPrefixOf_iff_prefix]
  constructor
  · intro e
    have : (a.extract i (i + b.size)).data.toList = b.data.toList := by rw [e]
    rw [hd] at this
    rw [← this]
    exact List.take_prefix _ _
  · intro e
    apply bytes_ext
    rw [hd, ← hbl]
    exact (List.prefix_iff_eq_take.1 e).symm

theorem contains_hit (a b : ByteArray) (i : Nat) (h : i + b.size ≤ a.size) (hn : Lib.NoOcc a.data.toList b.data.toList i) (ho : Lib.occAt a.data.toList b.data.toList i = true) : Lib.contains a.data.toList b.data.toList = true := by
  unfold Lib.contains
  have hl : a.data.toList.length = a.size := by simp
  rw [Lib.index_first (by omega) ho hn]
  simp
theorem contains_miss (a b : ByteArray) (i : Nat) (h : a.size < i + b.size) (hn : Lib.NoOcc a.data.toList b.data.toList i) : Lib.contains a.data.toList b.data.toList = false := by
  unfold Lib.contains
  have hl : a.data.toList.length = a.size := by simp
  have hl2 : b.data.toList.length = b.size := by simp
  rw [Lib.index_none (fun j hj => ?_)]
  · simp
  · by_cases hji : j < i
    · exact hn j hji
    · cases hc : Lib.occAt a.data.toList b.data.toList j with
      | false => rfl
      | true =>
        unfold Lib.occAt at hc
        have hp := (List.isPrefixOf_iff_prefix.1 hc).length_le
        rw [List.length_drop] at hp
        omega

set_option maxHeartbeats 400000 in
theorem in_any (a b : ByteArray) (ha : a.size ≤ 140737488355328) (hb : b.size ≤ 140737488355328) (w : World) :
    Calls Try.prog 23 #[.string a, .string b] w fun e w' => e = .returned (.bool (Lib.contains a.data.toList b.data.toList)) ∧ w = w' := by
  have Hc1 := Lib.hid (contains_hit a b)
  have Hc2 := Lib.hid (contains_miss a b)
  have Hocc := Lib.hid (occ_eq a b)
  go_enter Try.func23, Try.ntmps23
  go_wp2
  go_loopw [5] (fun i wr => ∃ k : Nat, k ≤ a.size + 1 ∧ i = .int .i64 k ∧ Hid (Lib.NoOcc a.data.toList b.data.toList k) ∧ w = wr) (fun i _ => a.size + 1 - (intOf i).toNat)
  case atStart => exact ⟨0, Nat.zero_le _, rfl, Lib.hid (Lib.NoOcc.zero _ _), rfl⟩
  case round =>
    obtain ⟨k, hk, rfl, Hn, rfl⟩ := hrel
    by_cases hlt : k + b.size ≤ a.size
    · have Ho := Lib.hid (Hocc.out k hlt)
      by_cases hxb : a.extract k (k + b.size) = b
      · have e1 := eqS hxb
        have Hres : Hid (Lib.contains a.data.toList b.data.toList = true) := Lib.hid (Hc1.out k hlt Hn.out (Ho.out.1 hxb))
        clear hxb
        go_wp2
        go_ret
        exact ⟨ret_bool Hres.out.symm, rfl⟩
      · have e1 := neS hxb
        have Hn2 : Hid (Lib.NoOcc a.data.toList b.data.toList (k + 1)) := Lib.hid (Hn.out.succ (by
          cases hc : Lib.occAt a.data.toList b.data.toList k with
          | false => rfl
          | true => exact absurd (Ho.out.2 hc) hxb))
        clear hxb
        go_wp2
        go_roundw
        case rel => exact ⟨k + 1, by omega, by go_num, Hn2, trivial⟩
        case measure => simp [intOf]; omega
    · have Hres : Hid (Lib.contains a.data.toList b.data.toList = false) := Lib.hid (Hc2.out k (by omega) Hn.out)
      go_wp2
      go_ret
      exact ⟨ret_bool Hres.out.symm, rfl⟩

set_option maxHeartbeats 400000 in
theorem rhas_any (a b : ByteArray) (ha : a.size ≤ 140737488355328) (hb : b.size ≤ 140737488355328) (w : World) :
    Calls Try.prog 13 #[.string a, .string b] w fun e w' => e = .returned (.bool (hasF a b)) ∧ Below w.heap.size w w' := by
  go_enter Try.func13, Try.ntmps13
  go_wp2_with fail
  refine (rfold_any a ha _).mono ?_
  rintro e w1 ⟨rfl, hb1⟩
  go_wp2_with fail
  refine (rfold_any b hb _).mono ?_
  rintro e w2 ⟨rfl, hb2⟩
  go_wp2_with fail
  refine (in_any _ _ (by rw [foldS_size]; exact ha) (by rw [foldS_size]; exact hb) _).mono ?_
  rintro e w3 ⟨rfl, rfl⟩
  go_wp2_with fail
  go_ret
  exact ⟨rfl, hb1.trans (hb2.mono hb1.size)⟩

set_option maxHeartbeats 400000 in
theorem has_any (a b : ByteArray) (ha : a.size < 4294967281) (hb : b.size ≤ 140737488355328) (w : World) (hm : MaxAt w) (h0 : 0 < w.heap.size) :
    Calls Try.prog 12 #[.string a, .string b] w fun e w' => e = .returned (.bool (hasF a b)) ∧ Below w.heap.size w w' := by
  go_enter Try.func12, Try.ntmps12
  go_wp2_with fail
  refine (fold_any a (by omega) _).mono ?_
  rintro e w1 ⟨rfl, hb1⟩
  go_wp2_with fail
  refine (fold_any b (by omega) _).mono ?_
  rintro e w2 ⟨rfl, hb2⟩
  have hb3 := hb1.trans (hb2.mono hb1.size)
  obtain ⟨m, hm⟩ := hm
  have hm2 : w2.cell? ⟨0, 0, none⟩ = some (.int .i64 m) := by rw [hb3.cell h0]; exact hm
  clear hm hb1 hb2
  go_wp2_with fail
  refine (Try.strings_Contains _ _ m _ (by rw [foldS_size]; exact ha) hm2).mono ?_
  rintro e w3 ⟨rfl, rfl⟩
  go_wp2_with fail
  go_ret
  exact ⟨rfl, hb3⟩
end Go.Proofs.Ytebfnglhbfkkdaa
