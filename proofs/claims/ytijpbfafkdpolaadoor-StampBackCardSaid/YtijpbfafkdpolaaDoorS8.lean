import Derived.Test.YtijpbfafkdpolaaDoorP2
import Derived.Test.YtijpbfafkdpolaaDoorShelf
import Derived.Deep.DeepCutAuto
import Derived.Deep.CutBlock
import Derived.Laws.DeepStrings4
namespace Go.Proofs.YtijpbfafkdpolaaDoor
open Go.RowKit Go.Shelf

theorem bytes_ext {a b : ByteArray} (h : a.data.toList = b.data.toList) : a = b := by
  cases a; cases b; simpa [Array.toList_inj] using h
/-- cutting digits off leaves nothing: all were digits -/
theorem trim_digits (l cs : List UInt8) : (Lib.trimS l cs = []) ↔ ∀ b ∈ l, cs.contains b = true := by
  have key : ∀ m : List UInt8, m.dropWhile (cs.contains ·) = [] ↔ ∀ b ∈ m, cs.contains b = true := by
    intro m
    induction m with
    | nil => simp
    | cons x m ih =>
      rw [List.dropWhile_cons]
      cases hx : cs.contains x with
      | false => simp only [hx, Bool.false_eq_true, if_false, List.mem_cons]; constructor
                 · intro h; cases h
                 · intro h; have := h x (.inl rfl); rw [hx] at this; cases this
      | true =>
        simp only [if_true, List.mem_cons]
        rw [ih]
        constructor
        · rintro h b (rfl | hb)
          · exact hx
          · exact h b hb
        · intro h b hb; exact h b (.inr hb)
  unfold Lib.trimS Lib.trimLeftS Lib.trimRightS
  constructor
  · intro h b hb
    rw [key] at h
    by_cases h0 : l.reverse.dropWhile (cs.contains ·) = []
    · rw [key] at h0; exact h0 b (List.mem_reverse.2 hb)
    · have h1 : ∀ c ∈ l.reverse.dropWhile (cs.contains ·), cs.contains c = true := fun c hc => h c (List.mem_reverse.2 hc)
      have h2 : l.reverse.takeWhile (cs.contains ·) ++ l.reverse.dropWhile (cs.contains ·) = l.reverse := List.takeWhile_append_dropWhile
      have h3 : b ∈ l.reverse := List.mem_reverse.2 hb
      rw [← h2, List.mem_append] at h3
      rcases h3 with h3 | h3
      · exact List.all_eq_true.1 (List.all_takeWhile (l := l.reverse) (p := (cs.contains ·))) b h3
      · exact h1 b h3
  · intro h
    have h0 : l.reverse.dropWhile (cs.contains ·) = [] := (key _).2 fun b hb => h b (List.mem_reverse.1 hb)
    rw [h0]; rfl
def digC : List UInt8 := [48, 49, 50, 51, 52, 53, 54, 55, 56, 57]
theorem digC_iff (b : UInt8) : digC.contains b = digB (b.toNat : Int) := by
  have : ∀ n : Fin 256, digC.contains (UInt8.ofNat n.val) = digB (((UInt8.ofNat n.val).toNat : Nat) : Int) := by decide +kernel
  have h := this ⟨b.toNat, b.toNat_lt⟩
  simpa using h
theorem trim_str (s : ByteArray) (n : Nat) (h : 1 + n ≤ s.size) : (Lib.trimS (s.extract 1 (n + 1)).data.toList digC).isEmpty = (strN s 1 n).all digB := by
  have e : strN s 1 n = (s.extract 1 (n + 1)).data.toList.map fun b => (b.toNat : Int) := by
    unfold strN nums
    rw [← List.map_drop, ← List.map_take]
    congr 1
    simp [ByteArray.data_extract, Array.toList_extract, List.extract_eq_take_drop]
  rw [e, Bool.eq_iff_iff, List.isEmpty_iff, trim_digits, List.all_map, List.all_eq_true]
  constructor
  · intro hh b hb; have := hh b hb; rw [digC_iff] at this; exact this
  · intro hh b hb; rw [digC_iff]; exact hh b hb
theorem ret_bool' {a b : Bool} (h : a = b) : Ending.returned (.bool a) = .returned (.bool b) := by rw [h]
theorem z_of {s : ByteArray} (h1 : s.size = 1) (h : byteF s 0 = 90) : s = ⟨#[90]⟩ := by
  apply bytes_ext
  have hl : s.data.toList.length = 1 := by simpa using h1
  obtain ⟨c, hc⟩ : ∃ c, s.data.toList = [c] := List.length_eq_one_iff.1 hl
  have hn : nums s = [(c.toNat : Int)] := by unfold nums; rw [hc]; rfl
  unfold byteF at h
  rw [hn] at h
  simp at h
  rw [hc]
  have : c = 90 := UInt8.toNat_inj.1 (by have : (90 : UInt8).toNat = 90 := rfl; omega)
  rw [this]
theorem not_z {s : ByteArray} (h : ¬ (s.size = 1 ∧ byteF s 0 = 90)) : (s.toList == [90]) = false := by
  rw [beq_eq_false_iff_ne, ByteArray.toList_eq]
  intro e
  have : s = ⟨#[90]⟩ := bytes_ext e
  subst this
  exact h ⟨rfl, rfl⟩
theorem tail_not {s : ByteArray} (h : ¬ (s.size = 1 ∧ byteF s 0 = 90)) : tailF s = (decide (3 ≤ s.size) && (decide (s.size ≤ 11) && (decide (byteF s 0 = 46) && (decide (byteF s (s.size - 1) = 90) && (!decide (byteF s (s.size - 2) = 48) && (strN s 1 (s.size - 2)).all digB))))) := by
  unfold tailF
  have : (decide (s.size = 1) && decide (byteF s 0 = 90)) = false := by
    rw [← Bool.decide_and]; exact decide_eq_false h
  rw [this]; rfl

set_option maxRecDepth 100000 in
set_option maxHeartbeats 2000000 in
theorem tail_mid (s : ByteArray) (hs : s.size ≤ 140737488355328) (w : World) (h1 : 3 ≤ s.size) (h2 : s.size ≤ 11) : Calls Tryd.prog 25 #[.string s] w fun e w' => e = .returned (.bool (tailF s)) ∧ Below w.heap.size w w' := by
  have HT := Lib.hid (tail_not (s := s) (by omega))
  have e1 := not_z (s := s) (by omega)
  go_enter Tryd.func25, Tryd.ntmps25
  go_upto_region 3 with (fail)
  go_cut [3] (fun t3 wx => ∃ n : Nat, t3 = .int .i64 n ∧ Hid (s.size = n + 2) ∧ w = wx)
  case first =>
    go_wp2_with fail
    go_meet
    exact ⟨s.size - 2, by congr 1; omega, Lib.hid (by omega), rfl⟩
  case rest =>
    obtain ⟨n, rfl, Hn, rfl⟩ := hcut
    clear e1
    have hn := Hn.out
    have n1 : 1 ≤ n := by omega
    have n9 : n ≤ 9 := by omega
    have hi0 : 0 < s.size := by omega
    have hi1 : n + 1 < s.size := by omega
    have hi2 : n < s.size := by omega
    have q0 : (decide ((n : Int) < 1) || decide (9 < (n : Int))) = false := by simp; omega
    obtain ⟨a, ha⟩ : ∃ a : Int, ((s[0]'hi0).toNat : Int) = a := ⟨_, rfl⟩
    obtain ⟨b, hb⟩ : ∃ a : Int, ((s[n + 1]'hi1).toNat : Int) = a := ⟨_, rfl⟩
    obtain ⟨c, hc⟩ : ∃ a : Int, ((s[n]'hi2).toNat : Int) = a := ⟨_, rfl⟩
    have HT2 : Hid (tailF s = (decide (a = 46) && (decide (b = 90) && (!decide (c = 48) && (strN s 1 n).all digB)))) := Lib.hid (by
      rw [HT.out, decide_eq_true h1, decide_eq_true h2, byteF_at s 0 hi0, ha, show s.size - 1 = n + 1 by omega, byteF_at s (n + 1) hi1, hb, show s.size - 2 = n by omega, byteF_at s n hi2, hc]; rfl)
    clear HT hn h1 h2
    by_cases h46 : a = 46
    · subst h46
      by_cases h90 : b = 90
      · subst h90
        by_cases h48 : c = 48
        · subst h48
          go_wp2_with fail
          go_ret
          exact ⟨ret_bool' (by rw [HT2.out]; simp), Below.refl _ _⟩
        · have q1 : (c == 48) = false := beq_eq_false_iff_ne.2 h48
          have HT3 : Hid (tailF s = (Lib.trimS (s.extract 1 (n + 1)).data.toList digC).isEmpty) := Lib.hid (by rw [HT2.out, trim_str s n (by omega), decide_eq_false h48]; simp)
          have hE : (s.extract 1 (n + 1)).size ≤ 9223372036854775807 := by simp; omega
          go_wp2_with fail
          refine (Tryd.strings_Trim (s.extract 1 (n + 1)) ⟨#[48, 49, 50, 51, 52, 53, 54, 55, 56, 57]⟩ _ hE (by decide) (Go.Proofs.ascii_of_all (by decide))).mono ?_
          rintro e w1 ⟨rfl, hb1⟩
          have Hb1 := Lib.hid hb1
          clear hb1
          go_wp2_with fail
          go_ret
          exact ⟨ret_bool' (by rw [HT3.out]; simp [digC]), Hb1.out⟩
      · go_wp2_with fail
        go_ret
        exact ⟨ret_bool' (by rw [HT2.out, decide_eq_false h90]; simp), Below.refl _ _⟩
    · go_wp2_with fail
      go_ret
      exact ⟨ret_bool' (by rw [HT2.out, decide_eq_false h46]; simp), Below.refl _ _⟩
set_option maxRecDepth 100000 in
set_option maxHeartbeats 2000000 in
theorem tail_any (s : ByteArray) (hs : s.size ≤ 140737488355328) (w : World) : Calls Tryd.prog 25 #[.string s] w fun e w' => e = .returned (.bool (tailF s)) ∧ Below w.heap.size w w' := by
  by_cases hz : s.size = 1 ∧ byteF s 0 = 90
  · obtain rfl := z_of hz.1 hz.2
    have Hr : Hid (tailF ⟨#[90]⟩ = true) := Lib.hid (by rfl)
    clear hz
    go_enter Tryd.func25, Tryd.ntmps25
    go_wp2_with fail
    go_ret
    exact ⟨ret_bool' Hr.out.symm, Below.refl _ _⟩
  · by_cases hm : 3 ≤ s.size ∧ s.size ≤ 11
    · exact tail_mid s hs w hm.1 hm.2
    · have e1 := not_z hz
      have HT := Lib.hid (tail_not hz)
      clear hz
      rcases (by omega : s.size < 3 ∨ 11 < s.size) with h | h
      · have Hr : Hid (tailF s = false) := Lib.hid (by rw [HT.out, decide_eq_false (by omega)]; rfl)
        clear HT hm
        go_enter Tryd.func25, Tryd.ntmps25
        go_wp2_with fail
        go_ret
        exact ⟨ret_bool' Hr.out.symm, Below.refl _ _⟩
      · have Hr : Hid (tailF s = false) := Lib.hid (by rw [HT.out, decide_eq_false (show ¬ s.size ≤ 11 by omega)]; simp)
        clear HT hm
        go_enter Tryd.func25, Tryd.ntmps25
        go_wp2_with fail
        go_ret
        exact ⟨ret_bool' Hr.out.symm, Below.refl _ _⟩
end Go.Proofs.YtijpbfafkdpolaaDoor
