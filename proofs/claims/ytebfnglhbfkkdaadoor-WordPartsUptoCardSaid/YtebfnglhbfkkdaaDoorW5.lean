import Derived.Test.YtebfnglhbfkkdaaDoorW4
namespace Go.Proofs.YtebfnglhbfkkdaaDoor
open Go.RowKit Go.Shelf

/-! ### a text at the first of some byte -/
theorem hit_parts (s : ByteArray) (c : UInt8) (u v : List UInt8) (h : s.data.toList = u ++ c :: v) : s.extract 0 u.length = strOf u ∧ s.extract (u.length + 1) s.size = strOf v := by
  have hl : s.data.toList.length = s.size := by simp
  constructor
  · apply bytes_ext
    rw [ByteArray.data_extract, Array.toList_extract, List.extract_eq_take_drop, h]
    simp [strOf]
  · apply bytes_ext
    rw [ByteArray.data_extract, Array.toList_extract, List.extract_eq_take_drop, h, ← List.drop_drop, List.drop_left, List.drop_succ_cons, List.drop_zero]
    rw [h] at hl
    simp at hl
    rw [List.take_of_length_le (by omega)]
    simp [strOf]
theorem splitF_miss (s : ByteArray) (c : UInt8) (h : c ∉ s.data.toList) : splitF s c = [s] := by
  unfold splitF; rw [splitL_none c _ h, List.map_singleton, strOf_data]
theorem splitF_hit (s : ByteArray) (c : UInt8) (u v : List UInt8) (h : s.data.toList = u ++ c :: v) (hu : c ∉ u) : splitF s c = strOf u :: splitF (strOf v) c := by
  unfold splitF
  rw [h, splitL_hit c u v hu, List.map_cons]
  simp [strOf]
theorem nums_strOf (v : List UInt8) : nums (strOf v) = v.map fun b => (b.toNat : Int) := by simp [nums, strOf]
theorem allF_not (p : Int → Bool) (v : List UInt8) (c : UInt8) (hc : c ∈ v) (hp : p (c.toNat : Int) = false) : allF p (strOf v) = false := by
  cases h : allF p (strOf v) with
  | false => rfl
  | true =>
    unfold allF at h
    rw [nums_strOf, List.all_eq_true] at h
    have := h _ (List.mem_map_of_mem hc)
    rw [hp] at this
    cases this

def mediaL : List ByteArray → Bool
  | [a, b] => nameF a && nameF b
  | _ => false
def mediaF (s : ByteArray) : Bool := mediaL (splitF s 47)
theorem media_miss (s : ByteArray) (h : (47 : UInt8) ∉ s.data.toList) : mediaF s = false := by
  unfold mediaF; rw [splitF_miss s 47 h]; rfl
theorem media_hit (s : ByteArray) (u v : List UInt8) (h : s.data.toList = u ++ 47 :: v) (hu : (47 : UInt8) ∉ u) : mediaF s = (nameF (s.extract 0 u.length) && nameF (s.extract (u.length + 1) s.size)) := by
  obtain ⟨e1, e2⟩ := hit_parts s 47 u v h
  rw [e1, e2]
  unfold mediaF
  rw [splitF_hit s 47 u v h hu]
  by_cases hv : (47 : UInt8) ∈ v
  · obtain ⟨p, q, hpq, hp⟩ := List.eq_append_cons_of_mem hv
    have h2 : splitF (strOf v) 47 = strOf p :: splitF (strOf q) 47 := splitF_hit (strOf v) 47 p q (by rw [← hpq]; simp [strOf]) hp
    have h3 : splitF (strOf q) 47 ≠ [] := by unfold splitF; simp [splitL_ne]
    have h4 : nameF (strOf v) = false := by
      unfold nameF
      rw [allF_not nameCh v 47 hv (by decide)]
      simp
    rw [h2, h4, Bool.and_false]
    cases hq : splitF (strOf q) 47 with
    | nil => exact absurd hq h3
    | cons x r => rfl
  · rw [splitF_miss (strOf v) 47 (by simpa [strOf] using hv)]
    rfl

set_option maxHeartbeats 400000 in
theorem media_any (s : ByteArray) (hs : s.size ≤ 140737488355328) (w : World) : Calls Tryd.prog 9 #[.string s] w fun e w' => e = .returned (.bool (mediaF s)) ∧ Dr w w' := by
  rcases idx_cases s 47 with ⟨h, hn⟩ | ⟨k, h, hk, u, v, he, hu, rfl⟩
  · have Hr := Lib.hid (media_miss s hn)
    have HC := Lib.hid (cut_miss s 47 h w)
    clear h hn
    go_enter Tryd.func9, Tryd.ntmps9
    go_wp2_with fail
    refine HC.out.mono ?_
    rintro e w1 ⟨rfl, q, rfl⟩
    go_wp2_with fail
    go_ret
    exact ⟨ret_bool Hr.out.symm, ⟨q, rfl⟩⟩
  · have Hr := Lib.hid (media_hit s u v he hu)
    have HC := Lib.hid (cut_hit s 47 u.length h hk hs w)
    have z1 : (s.extract 0 u.length).size ≤ 140737488355328 := by rw [ByteArray.size_extract]; omega
    have z2 : (s.extract (u.length + 1) s.size).size ≤ 140737488355328 := by rw [ByteArray.size_extract]; omega
    clear h he
    generalize s.extract 0 u.length = a at *
    generalize s.extract (u.length + 1) s.size = b at *
    go_enter Tryd.func9, Tryd.ntmps9
    go_wp2_with fail
    refine HC.out.mono ?_
    rintro e w1 ⟨rfl, q, rfl⟩
    go_wp2_with fail
    refine (name_any a z1 _).mono ?_
    rintro e w1 ⟨rfl, rfl⟩
    cases ha : nameF a with
    | false =>
      rw [ha] at Hr
      go_wp2_with fail
      go_ret
      exact ⟨ret_bool (by rw [Hr.out]; rfl), ⟨q, rfl⟩⟩
    | true =>
      rw [ha] at Hr
      go_wp2_with fail
      refine (name_any b z2 _).mono ?_
      rintro e w1 ⟨rfl, rfl⟩
      go_wp2_with fail
      go_ret
      exact ⟨ret_bool (by rw [Hr.out]; rfl), ⟨q, rfl⟩⟩

set_option maxHeartbeats 1000000 in
theorem rmedia_any (s : ByteArray) (hs : s.size ≤ 3200000) (w : World) : Calls Tryd.prog 10 #[.string s] w fun e w' => e = .returned (.bool (mediaF s)) ∧ Below w.heap.size w w' := by
  have HS := Lib.hid (rsplit_any s 47 47 rfl hs w)
  have Hz := Lib.hid (splitF_size s 47)
  have Hr : Hid (mediaF s = mediaL (splitF s 47)) := Lib.hid rfl
  go_enter Tryd.func10, Tryd.ntmps10
  go_wp2_with fail
  refine HS.out.mono ?_
  rintro e w1 ⟨A, k, rfl, hown, hb⟩
  have Hrd := Lib.hid (Rd.of_own hown)
  have Hb := Lib.hid hb
  clear hown hb HS
  generalize splitF s 47 = l at *
  match l, Hrd, Hr, Hz with
  | [], Hrd, Hr, Hz =>
    go_wp2_with fail
    go_ret
    exact ⟨ret_bool (by rw [Hr.out]; rfl), Hb.out⟩
  | [a], Hrd, Hr, Hz =>
    go_wp2_with fail
    go_ret
    exact ⟨ret_bool (by rw [Hr.out]; rfl), Hb.out⟩
  | a :: b :: c :: r, Hrd, Hr, Hz =>
    have b1 : (((a :: b :: c :: r).length : Int) == 2) = false := beq_eq_false_iff_ne.2 (by simp only [List.length_cons]; omega)
    generalize (a :: b :: c :: r).length = n at *
    go_wp2_with fail
    go_ret
    exact ⟨ret_bool (by rw [Hr.out]; rfl), Hb.out⟩
  | [a, b], Hrd, Hr, Hz =>
    have za := Hz.out a (by simp)
    have zb := Hz.out b (by simp)
    obtain ⟨B1, o1, rfl, _, hc⟩ := Hrd.out.at_ (by simp)
    have h0 : w1.cell? ⟨B1, o1, none⟩ = some (.string a) := hc 0 (.string a) rfl
    have h1 := hc 1 (.string b) rfl
    clear hc
    have Hr2 : Hid (mediaF s = (nameF a && nameF b)) := Lib.hid Hr.out
    go_wp2_with fail
    refine (rname_any a (by omega) _).mono ?_
    rintro e w2 ⟨rfl, rfl⟩
    cases ha : nameF a with
    | false =>
      rw [ha] at Hr2
      go_wp2_with fail
      go_ret
      exact ⟨ret_bool (by rw [Hr2.out]; rfl), Hb.out⟩
    | true =>
      rw [ha] at Hr2
      go_wp2_with fail
      refine (rname_any b (by omega) _).mono ?_
      rintro e w2 ⟨rfl, rfl⟩
      go_wp2_with fail
      go_ret
      exact ⟨ret_bool (by rw [Hr2.out]; rfl), Hb.out⟩
end Go.Proofs.YtebfnglhbfkkdaaDoor
