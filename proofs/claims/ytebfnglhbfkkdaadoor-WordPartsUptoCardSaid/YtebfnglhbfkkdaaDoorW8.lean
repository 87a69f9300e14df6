import Derived.Test.YtebfnglhbfkkdaaDoorW7
namespace Go.Proofs.YtebfnglhbfkkdaaDoor
open Go.RowKit Go.Shelf

theorem nums_ext (s : ByteArray) (a b : Nat) : nums (s.extract a b) = ((nums s).drop a).take (b - a) := by
  unfold nums
  rw [ByteArray.data_extract, Array.toList_extract, List.extract_eq_take_drop, List.map_take, List.map_drop]
theorem allF_ext (p : Int → Bool) (s : ByteArray) (a b : Nat) : allF p (s.extract a b) = true ↔ ∀ j (hj : j < s.size), a ≤ j → j < b → p ((s[j]'hj).toNat : Int) = true := by
  unfold allF
  rw [nums_ext, List.all_eq_true]
  have hl := nums_len s
  constructor
  · intro h j hj h1 h2
    have hlen : j - a < (((nums s).drop a).take (b - a)).length := by rw [List.length_take, List.length_drop, hl]; omega
    have := h _ (List.getElem_mem hlen)
    rw [List.getElem_take, List.getElem_drop] at this
    have e := nums_at s j hj
    simp only [show a + (j - a) = j by omega] at this
    rwa [e] at this
  · intro h x hx
    obtain ⟨i, hi, rfl⟩ := List.getElem_of_mem hx
    have hi2 := hi
    rw [List.length_take, List.length_drop, hl] at hi2
    rw [List.getElem_take, List.getElem_drop, nums_at s (a + i) (by omega)]
    exact h (a + i) (by omega) (by omega) (by omega)
theorem sch_in (x : Int) (h0 : 0 ≤ x) (h1 : x ≤ 255) : inC schL x = (x == 43 || (x == 45 || x == 46)) := by
  rw [Bool.eq_iff_iff, inC_mem]
  have e := byt_toNat x h0 h1
  simp only [schL, List.mem_cons, List.not_mem_nil, or_false, Bool.or_eq_true, beq_iff_eq]
  constructor
  · rintro (h | h | h) <;> (rw [h] at e)
    · left; exact e.symm
    · right; left; exact e.symm
    · right; right; exact e.symm
  · rintro (rfl | rfl | rfl)
    · left; rfl
    · right; left; rfl
    · right; right; rfl
theorem sch_rest (x : Int) (h0 : 0 ≤ x) (h1 : x ≤ 255) (h : schCh x = true) : restCh x = true := by
  have hx : x.toNat ≤ 255 := by omega
  have key : ∀ n : Fin 256, schCh ((n.val : Nat) : Int) = true → restCh ((n.val : Nat) : Int) = true := by decide +kernel
  have := key ⟨x.toNat, by omega⟩
  simp only [show ((x.toNat : Nat) : Int) = x by omega] at this
  exact this h
theorem rest_58 : restCh 58 = true := by decide +kernel

def uriF (s : ByteArray) : Bool :=
  if 0 ≤ Lib.indexByte s.data.toList 58 then
    decide (1 ≤ (Lib.indexByte s.data.toList 58).toNat ∧ (Lib.indexByte s.data.toList 58).toNat + 1 < s.size) && (headF letF (s.extract 0 (Lib.indexByte s.data.toList 58).toNat) &&
      (allF schCh (s.extract 0 (Lib.indexByte s.data.toList 58).toNat) && allF restCh (s.extract ((Lib.indexByte s.data.toList 58).toNat + 1) s.size)))
  else false
theorem uri_miss (s : ByteArray) (h : Lib.indexByte s.data.toList 58 = -1) : uriF s = false := by
  unfold uriF; rw [h]; rfl
theorem uri_hit (s : ByteArray) (k : Nat) (h : Lib.indexByte s.data.toList 58 = k) : uriF s = (decide (1 ≤ k ∧ k + 1 < s.size) && (headF letF (s.extract 0 k) && (allF schCh (s.extract 0 k) && allF restCh (s.extract (k + 1) s.size)))) := by
  unfold uriF; rw [h, if_pos (by omega), Int.toNat_natCast]
theorem head_ext (p : Int → Bool) (s : ByteArray) (k : Nat) (h : 0 < k) (hs : 0 < s.size) : headF p (s.extract 0 k) = p ((s[0]'hs).toNat : Int) := by
  unfold headF
  have e := nums_at s 0 hs
  have hl := nums_len s
  rw [nums_ext, List.drop_zero]
  cases hn : nums s with
  | nil => rw [hn] at hl; simp at hl; omega
  | cons x r =>
    obtain ⟨k, rfl⟩ : ∃ j, k = j + 1 := ⟨k - 1, by omega⟩
    simp only [hn, List.getElem_cons_zero] at e
    rw [Nat.sub_zero, List.take_succ_cons, e]

set_option maxHeartbeats 1000000 in
theorem uri_any (s : ByteArray) (hs : s.size ≤ 140737488355328) (w : World) : Calls Tryd.prog 13 #[.string s] w fun e w' => e = .returned (.bool (uriF s)) ∧ Dr w w' := by
  rcases idx_cases s 58 with ⟨h, hn⟩ | ⟨k, h, hk, -, -, -, -, -⟩
  · have Hr := Lib.hid (uri_miss s h)
    have HC := Lib.hid (cut_miss s 58 h w)
    clear h hn
    go_enter Tryd.func13, Tryd.ntmps13
    go_wp2_with fail
    refine HC.out.mono ?_
    rintro e w1 ⟨rfl, q, rfl⟩
    go_wp2_with fail
    go_ret
    exact ⟨ret_bool Hr.out.symm, ⟨q, rfl⟩⟩
  · have Hr := Lib.hid (uri_hit s k h)
    have HC := Lib.hid (cut_hit s 58 k h hk hs w)
    have z1 : (s.extract 0 k).size = k := by rw [ByteArray.size_extract]; omega
    have z2 : (s.extract (k + 1) s.size).size = s.size - (k + 1) := by rw [ByteArray.size_extract]; omega
    clear h
    generalize s.extract 0 k = a at *
    generalize s.extract (k + 1) s.size = b at *
    by_cases hk0 : k = 0
    · have Hr2 : Hid (uriF s = false) := Lib.hid (by rw [Hr.out, decide_eq_false (by omega)]; rfl)
      have hE := toList_nil (a := a) (by omega)
      clear hk0 z1 z2
      go_enter Tryd.func13, Tryd.ntmps13
      go_wp2_with fail
      refine HC.out.mono ?_
      rintro e w1 ⟨rfl, q, rfl⟩
      go_wp2_with fail
      go_ret
      exact ⟨ret_bool Hr2.out.symm, ⟨q, rfl⟩⟩
    · have hE := ne_isEmpty (a := a) (by omega)
      have hE2 : a.toList.isEmpty = false := by simpa using hE
      by_cases hk1 : s.size ≤ k + 1
      · have Hr2 : Hid (uriF s = false) := Lib.hid (by rw [Hr.out, decide_eq_false (by omega)]; rfl)
        have hF := toList_nil (a := b) (by omega)
        clear hk0 z1 z2
        go_enter Tryd.func13, Tryd.ntmps13
        go_wp2_with fail
        refine HC.out.mono ?_
        rintro e w1 ⟨rfl, q, rfl⟩
        go_wp2_with fail
        go_ret
        exact ⟨ret_bool Hr2.out.symm, ⟨q, rfl⟩⟩
      · have hF := ne_isEmpty (a := b) (by omega)
        have hF2 : b.toList.isEmpty = false := by simpa using hF
        have hpos : 0 < a.size := by omega
        have Hr2 : Hid (uriF s = (letF ((a[0]'hpos).toNat : Int) && (allF schCh a && allF restCh b))) := Lib.hid (by rw [Hr.out, decide_eq_true (by omega), headF_at letF a hpos]; rfl)
        have HB := Lib.hid (byte_bd a 0 hpos)
        have za : a.size ≤ 140737488355328 := by omega
        have zb : b.size ≤ 140737488355328 := by omega
        clear z1 z2 Hr
        go_enter Tryd.func13, Tryd.ntmps13
        go_wp2_with fail
        refine HC.out.mono ?_
        rintro e w1 ⟨rfl, q, rfl⟩
        go_wp2_with fail
        refine (letter_any _ HB.out.1 HB.out.2 _).mono ?_
        rintro e w1 ⟨rfl, rfl⟩
        cases hl : letF ((a[0]'hpos).toNat : Int) with
        | false =>
          rw [hl] at Hr2
          go_wp2_with fail
          go_ret
          exact ⟨ret_bool (by rw [Hr2.out]; rfl), ⟨q, rfl⟩⟩
        | true =>
          rw [hl] at Hr2
          go_wp2_with fail
          refine (allSch a za _).mono ?_
          rintro e w1 ⟨rfl, rfl⟩
          cases hsc : allF schCh a with
          | false =>
            rw [hsc] at Hr2
            go_wp2_with fail
            go_ret
            exact ⟨ret_bool (by rw [Hr2.out]; rfl), ⟨q, rfl⟩⟩
          | true =>
            rw [hsc] at Hr2
            go_wp2_with fail
            refine (allRest b zb _).mono ?_
            rintro e w1 ⟨rfl, rfl⟩
            go_wp2_with fail
            go_ret
            exact ⟨ret_bool (by rw [Hr2.out]; rfl), ⟨q, rfl⟩⟩
end Go.Proofs.YtebfnglhbfkkdaaDoor
