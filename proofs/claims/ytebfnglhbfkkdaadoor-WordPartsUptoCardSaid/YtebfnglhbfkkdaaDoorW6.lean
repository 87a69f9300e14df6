import Derived.Test.YtebfnglhbfkkdaaDoorW5
namespace Go.Proofs.YtebfnglhbfkkdaaDoor
open Go.RowKit Go.Shelf

/-! ### others -/
def otherF (s : ByteArray) : Bool := decide (0 < Lib.indexByte s.data.toList 58 ∧ Lib.indexByte s.data.toList 58 < (s.size : Int) - 1)
theorem other_at (s : ByteArray) (i : Int) (h : Lib.indexByte s.data.toList 58 = i) : otherF s = decide (0 < i ∧ i < (s.size : Int) - 1) := by subst h; rfl

set_option maxHeartbeats 400000 in
theorem other_any (s : ByteArray) (hs : s.size ≤ 140737488355328) (w : World) : Calls Tryd.prog 15 #[.string s] w fun e w' => e = .returned (.bool (otherF s)) ∧ w = w' := by
  have HC := Lib.hid (Tryd.strings_IndexByte s 58 w)
  have hge := Lib.indexByte_ge s.data.toList 58
  have hle : Lib.indexByte s.data.toList 58 ≤ s.size := by
    rcases idx_cases s 58 with ⟨h, _⟩ | ⟨k, h, hk, _⟩
    · rw [h]; omega
    · rw [h]; omega
  obtain ⟨i, hi⟩ : ∃ i, Lib.indexByte s.data.toList 58 = i := ⟨_, rfl⟩
  have Hr := Lib.hid (other_at s i hi)
  have HC2 : Hid (Calls Tryd.prog 31 #[.string s, .int .u8 58] w fun e w' => e = .returned (.int .i64 i) ∧ w = w') := Lib.hid (HC.out.mono fun e w' ⟨he, hw⟩ => ⟨he.trans (by rw [show (58 : Int).toNat.toUInt8 = (58 : UInt8) from rfl, hi]), hw.symm⟩)
  rw [hi] at hge hle
  clear hi HC
  rcases (by omega : i ≤ 0 ∨ (s.size : Int) - 1 ≤ i ∨ (0 < i ∧ i < (s.size : Int) - 1)) with h | h | ⟨h, h'⟩
  · have Hr2 : Hid (otherF s = false) := Lib.hid (by rw [Hr.out]; exact decide_eq_false (by omega))
    go_enter Tryd.func15, Tryd.ntmps15
    go_wp2_with fail
    refine HC2.out.mono ?_
    rintro e w1 ⟨rfl, rfl⟩
    go_wp2_with fail
    all_goals go_ret
    all_goals exact ⟨ret_bool (by first | exact Hr2.out.symm | (rw [Hr2.out]; simp; omega)), rfl⟩
  · have Hr2 : Hid (otherF s = false) := Lib.hid (by rw [Hr.out]; exact decide_eq_false (by omega))
    go_enter Tryd.func15, Tryd.ntmps15
    go_wp2_with fail
    refine HC2.out.mono ?_
    rintro e w1 ⟨rfl, rfl⟩
    go_wp2_with fail
    all_goals go_ret
    all_goals exact ⟨ret_bool (by first | exact Hr2.out.symm | (rw [Hr2.out]; simp; omega)), rfl⟩
  · have Hr2 : Hid (otherF s = true) := Lib.hid (by rw [Hr.out]; exact decide_eq_true ⟨h, h'⟩)
    go_enter Tryd.func15, Tryd.ntmps15
    go_wp2_with fail
    refine HC2.out.mono ?_
    rintro e w1 ⟨rfl, rfl⟩
    go_wp2_with fail
    all_goals go_ret
    all_goals exact ⟨ret_bool (by first | exact Hr2.out.symm | (rw [Hr2.out]; simp; omega)), rfl⟩

theorem ne_isEmpty {a : ByteArray} (h : 0 < a.size) : (!a.toList.isEmpty) = true := by
  rw [ByteArray.toList_eq]
  cases hh : a.data.toList with
  | nil =>
    have e2 : a.data.toList.length = a.size := by simp
    rw [hh] at e2; simp at e2; omega
  | cons x r => rfl
theorem toList_nil {a : ByteArray} (h : a.size = 0) : a.toList = [] := by
  rw [ByteArray.toList_eq]; exact List.eq_nil_of_length_eq_zero (by simpa using h)

set_option maxHeartbeats 1000000 in
theorem rother_any (s : ByteArray) (hs : s.size ≤ 3200000) (w : World) : Calls Tryd.prog 16 #[.string s] w fun e w' => e = .returned (.bool (otherF s)) ∧ Below w.heap.size w w' := by
  rcases idx_cases s 58 with ⟨hi, hn⟩ | ⟨k, hi, hk, u, v, he, hu, rfl⟩
  · have Hr2 : Hid (otherF s = false) := Lib.hid (by rw [other_at s _ hi]; rfl)
    have HS := Lib.hid (rsplit_at s 58 58 rfl hs [s] 1 (splitF_miss s 58 hn) rfl w)
    clear hi hn
    go_enter Tryd.func16, Tryd.ntmps16
    go_wp2_with fail
    refine HS.out.mono ?_
    rintro e w1 ⟨A, k, rfl, hown, hb⟩
    have Hb := Lib.hid hb
    clear hown hb HS
    go_wp2_with fail
    go_ret
    exact ⟨ret_bool Hr2.out.symm, Hb.out⟩
  · have Hr := Lib.hid (other_at s _ hi)
    have Hl := Lib.hid (splitF_hit s 58 u v he hu)
    have Hsz : Hid ((strOf u).size = u.length) := Lib.hid (by simp [strOf, ByteArray.size])
    have hne : 0 < (splitF (strOf v) 58).length := List.length_pos_iff.2 (by unfold splitF; simp [splitL_ne])
    clear hi he
    generalize strOf u = a at *
    generalize u.length = m at *
    obtain ⟨n, hn⟩ : ∃ n, (splitF (strOf v) 58).length = n := ⟨_, rfl⟩
    rw [hn] at hne
    have hlen : (splitF s 58).length = n + 1 := by rw [Hl.out, List.length_cons, hn]
    have Hlen := Lib.hid hlen
    have hln : n + 1 ≤ s.size + 1 := by
      rw [← hlen, splitF_len]
      have := Lib.countB_le ⟨#[58]⟩ (Nat.le_refl 1) _ s (Nat.le_refl _)
      omega
    have zm := hk
    have h0' : Hid ((splitF s 58)[0]? = some a) := Lib.hid (by rw [Hl.out]; rfl)
    have HS := Lib.hid (rsplit_at s 58 58 rfl hs _ (n + 1) rfl hlen w)
    clear hn hlen
    generalize splitF s 58 = l at *
    rcases (by omega : m = 0 ∨ (0 < m ∧ s.size ≤ m + 1) ∨ (0 < m ∧ m + 1 < s.size)) with h | ⟨h, h'⟩ | ⟨h, h'⟩
    · have Hr2 : Hid (otherF s = false) := Lib.hid (by rw [Hr.out]; exact decide_eq_false (by omega))
      have hz : a.size = 0 := by rw [Hsz.out]; exact h
      have hE := toList_nil hz
      clear h hz Hr
      go_enter Tryd.func16, Tryd.ntmps16
      go_wp2_with fail
      refine HS.out.mono ?_
      rintro e w1 ⟨A, k, rfl, hown, hb⟩
      have Hrd := Lib.hid (Rd.of_own hown)
      have Hb := Lib.hid hb
      clear hown hb HS
      obtain ⟨B1, o1, rfl, _, hc⟩ := Hrd.out.at_ (by rw [List.length_map, Hlen.out]; omega)
      have h0 : w1.cell? ⟨B1, o1, none⟩ = some (.string a) := hc 0 (.string a) (by rw [List.getElem?_map, h0'.out]; rfl)
      clear hc
      go_wp2_with fail
      go_ret
      exact ⟨ret_bool Hr2.out.symm, Hb.out⟩
    · have Hr2 : Hid (otherF s = false) := Lib.hid (by rw [Hr.out]; exact decide_eq_false (by omega))
      have hz : a.size = m := Hsz.out
      have hE := ne_isEmpty (a := a) (by omega)
      subst hz
      clear Hr
      go_enter Tryd.func16, Tryd.ntmps16
      go_wp2_with fail
      refine HS.out.mono ?_
      rintro e w1 ⟨A, k, rfl, hown, hb⟩
      have Hrd := Lib.hid (Rd.of_own hown)
      have Hb := Lib.hid hb
      clear hown hb HS
      obtain ⟨B1, o1, rfl, _, hc⟩ := Hrd.out.at_ (by rw [List.length_map, Hlen.out]; omega)
      have h0 : w1.cell? ⟨B1, o1, none⟩ = some (.string a) := hc 0 (.string a) (by rw [List.getElem?_map, h0'.out]; rfl)
      clear hc
      go_wp2_with fail
      go_ret
      exact ⟨ret_bool (by rw [Hr2.out]; first | rfl | (simp; omega)), Hb.out⟩
    · have Hr2 : Hid (otherF s = true) := Lib.hid (by rw [Hr.out]; exact decide_eq_true (by omega))
      have hz : a.size = m := Hsz.out
      have hE := ne_isEmpty (a := a) (by omega)
      subst hz
      clear Hr
      go_enter Tryd.func16, Tryd.ntmps16
      go_wp2_with fail
      refine HS.out.mono ?_
      rintro e w1 ⟨A, k, rfl, hown, hb⟩
      have Hrd := Lib.hid (Rd.of_own hown)
      have Hb := Lib.hid hb
      clear hown hb HS
      obtain ⟨B1, o1, rfl, _, hc⟩ := Hrd.out.at_ (by rw [List.length_map, Hlen.out]; omega)
      have h0 : w1.cell? ⟨B1, o1, none⟩ = some (.string a) := hc 0 (.string a) (by rw [List.getElem?_map, h0'.out]; rfl)
      clear hc
      go_wp2_with fail
      go_ret
      exact ⟨ret_bool (by rw [Hr2.out]; first | rfl | (simp; omega)), Hb.out⟩

/-! ### words of a list -/
def inF (list s : ByteArray) : Bool := decide (s.size ≠ 0) && (splitF list 32).any (fun x => decide (x = s))
theorem inF_none (list s : ByteArray) (h : s.size = 0) : inF list s = false := by unfold inF; rw [decide_eq_false (by simp [h])]; rfl
theorem inF_some (list s : ByteArray) (h : 0 < s.size) : inF list s = (splitF list 32).any (fun x => decide (x = s)) := by unfold inF; rw [decide_eq_true (by omega)]; rfl
theorem any_step (xs : List ByteArray) (f : ByteArray → Bool) (k : Nat) (h : k < xs.length) : (xs.take (k + 1)).any f = ((xs.take k).any f || f xs[k]) := by
  rw [take_succ_eq xs k h, List.any_append]; simp
theorem any_hit (xs : List ByteArray) (f : ByteArray → Bool) (k : Nat) (h : k < xs.length) (hf : f xs[k] = true) : xs.any f = true := List.any_eq_true.2 ⟨xs[k], List.getElem_mem h, hf⟩

set_option maxHeartbeats 1000000 in
theorem in_any (list s : ByteArray) (hl : list.size < 4294967281) (w : World) (hm : MaxAt w) : Calls Tryd.prog 17 #[.string list, .string s] w fun e w' => e = .returned (.bool (inF list s)) ∧ Below w.heap.size w w' := by
  by_cases hs : s.size = 0
  · have Hr := Lib.hid (inF_none list s hs)
    have hE := toList_nil hs
    clear hs
    go_enter Tryd.func17, Tryd.ntmps17
    go_wp2_with fail
    go_ret
    exact ⟨ret_bool Hr.out.symm, Below.refl _ _⟩
  · have Hr := Lib.hid (inF_some list s (by omega))
    have hE := ne_isEmpty (a := s) (by omega)
    have hE2 : s.toList.isEmpty = false := by simpa using hE
    have HS := Lib.hid (split_any list 32 hl w hm)
    have hln := splitF_len list 32
    have hcl := Lib.countB_le ⟨#[32]⟩ (Nat.le_refl 1) _ list (Nat.le_refl _)
    clear hm
    go_enter Tryd.func17, Tryd.ntmps17
    go_wp2_with fail
    refine HS.out.mono ?_
    rintro e w1 ⟨A, rfl, hrd, hb⟩
    have Hrd := Lib.hid hrd
    have Hb := Lib.hid hb
    clear hrd hb HS
    generalize splitF list 32 = xs at *
    obtain ⟨n, hn⟩ : ∃ n, xs.length = n := ⟨_, rfl⟩
    have hn2 : n ≤ 4294967281 := by omega
    rw [hn]
    have Hn := Lib.hid hn
    clear hn hln hcl
    go_wp2_with fail
    go_loopw [12] (fun i wr => ∃ k : Nat, k ≤ n ∧ i = .int .i64 k ∧ Hid ((xs.take k).any (fun x => decide (x = s)) = false) ∧ w1 = wr) (fun i _ => n - (intOf i).toNat)
    case atStart => exact ⟨0, Nat.zero_le _, rfl, Lib.hid rfl, rfl⟩
    case round =>
      obtain ⟨k, hk, rfl, Ha, rfl⟩ := hrel
      by_cases hlt : k < n
      · have lx : k < xs.length := by rw [Hn.out]; exact hlt
        obtain ⟨b1, o1, rfl, _, hc⟩ := Hrd.out.at_ (by rw [List.length_map]; omega)
        have h1 := hc k (.string xs[k]) (by simp [lx])
        clear hc
        have Hst := Lib.hid (any_step xs (fun x => decide (x = s)) k lx)
        have Hhit := Lib.hid (any_hit xs (fun x => decide (x = s)) k lx)
        generalize xs[k] = x at *
        by_cases hx : x = s
        · have e1 := eqS hx
          have Hres := Lib.hid (Hhit.out (decide_eq_true hx))
          clear hx
          go_wp2
          go_ret
          exact ⟨ret_bool (by rw [Hr.out, Hres.out]), Hb.out⟩
        · have e1 := neS hx
          have Ha2 : Hid ((xs.take (k + 1)).any (fun x => decide (x = s)) = false) := Lib.hid (by rw [Hst.out, Ha.out, decide_eq_false hx]; rfl)
          clear hx
          go_wp2
          go_roundw
          case rel => exact ⟨k + 1, by omega, by go_num, Ha2, trivial⟩
          case measure => simp [intOf]; omega
      · have Hres : Hid (xs.any (fun x => decide (x = s)) = false) := Lib.hid (by
          have := Ha.out
          rwa [show k = xs.length by rw [Hn.out]; omega, List.take_length] at this)
        go_wp2
        go_ret
        exact ⟨ret_bool (by rw [Hr.out, Hres.out]), Hb.out⟩

set_option maxHeartbeats 1000000 in
theorem rin_any (list s : ByteArray) (hl : list.size ≤ 3200000) (w : World) : Calls Tryd.prog 18 #[.string list, .string s] w fun e w' => e = .returned (.bool (inF list s)) ∧ Below w.heap.size w w' := by
  have HS := Lib.hid (rsplit_at list 32 32 rfl hl _ _ rfl rfl w)
  have hln := splitF_len list 32
  have hcl := Lib.countB_le ⟨#[32]⟩ (Nat.le_refl 1) _ list (Nat.le_refl _)
  have Hr0 := Lib.hid (inF_none list s)
  have Hr1 := Lib.hid (inF_some list s)
  go_enter Tryd.func18, Tryd.ntmps18
  go_wp2_with fail
  refine HS.out.mono ?_
  rintro e w1 ⟨A, c1, rfl, hown, hb⟩
  have Hrd := Lib.hid (Rd.of_own hown)
  have Hb := Lib.hid hb
  clear hown hb HS
  generalize splitF list 32 = xs at *
  obtain ⟨n, hn⟩ : ∃ n, xs.length = n := ⟨_, rfl⟩
  have hn2 : n ≤ 4294967281 := by omega
  rw [hn]
  have Hn := Lib.hid hn
  clear hn hln hcl
  go_wp2_with fail
  go_loopw [6] (fun i wr => ∃ k : Nat, k ≤ n ∧ i = .int .i64 k ∧ Hid (0 < s.size → (xs.take k).any (fun x => decide (x = s)) = false) ∧ w1 = wr) (fun i _ => n - (intOf i).toNat)
  case atStart => exact ⟨0, Nat.zero_le _, rfl, Lib.hid (fun _ => rfl), rfl⟩
  case round =>
    obtain ⟨k, hk, rfl, Ha, rfl⟩ := hrel
    by_cases hlt : k < n
    · have lx : k < xs.length := by rw [Hn.out]; exact hlt
      obtain ⟨b1, o1, rfl, _, hc⟩ := Hrd.out.at_ (by rw [List.length_map]; omega)
      have h1 := hc k (.string xs[k]) (by simp [lx])
      clear hc
      have Hst := Lib.hid (any_step xs (fun x => decide (x = s)) k lx)
      have Hhit := Lib.hid (any_hit xs (fun x => decide (x = s)) k lx)
      generalize xs[k] = x at *
      by_cases hx : x = s
      · have e1 := eqS hx
        by_cases hs : s.size = 0
        · have hE := toList_nil hs
          have hEx : x.toList = [] := by rw [hx]; exact hE
          have Ha2 : Hid (0 < s.size → (xs.take (k + 1)).any (fun x => decide (x = s)) = false) := Lib.hid (fun h => by omega)
          clear hx hs
          go_wp2
          go_roundw
          case rel => exact ⟨k + 1, by omega, by go_num, Ha2, trivial⟩
          case measure => simp [intOf]; omega
        · have hE := ne_isEmpty (a := s) (by omega)
          have hE2 : s.toList.isEmpty = false := by simpa using hE
          have Hres := Lib.hid (Hhit.out (decide_eq_true hx))
          have Hr2 := Lib.hid (Hr1.out (by omega))
          clear hx
          go_wp2
          go_ret
          exact ⟨ret_bool (by rw [Hr2.out, Hres.out]), Hb.out⟩
      · have e1 := neS hx
        have Ha2 : Hid (0 < s.size → (xs.take (k + 1)).any (fun x => decide (x = s)) = false) := Lib.hid (fun h => by rw [Hst.out, Ha.out h, decide_eq_false hx]; rfl)
        clear hx
        go_wp2
        go_roundw
        case rel => exact ⟨k + 1, by omega, by go_num, Ha2, trivial⟩
        case measure => simp [intOf]; omega
    · have Hres : Hid (inF list s = false) := Lib.hid (by
        by_cases hs : s.size = 0
        · exact Hr0.out hs
        · rw [Hr1.out (by omega)]
          have := Ha.out (by omega)
          rwa [show k = xs.length by rw [Hn.out]; omega, List.take_length] at this)
      go_wp2
      go_ret
      exact ⟨ret_bool Hres.out.symm, Hb.out⟩
end Go.Proofs.YtebfnglhbfkkdaaDoor
