import Derived.Test.YtijpbfafkdpolaaDoorS3
namespace Go.Proofs.YtijpbfafkdpolaaDoor
open Go.RowKit Go.Shelf

/-! ### a text's bytes as numbers; the number of some digits -/
def nums (s : ByteArray) : List Int := s.data.toList.map fun b => (b.toNat : Int)
theorem nums_len (s : ByteArray) : (nums s).length = s.size := by simp [nums]
theorem nums_at (s : ByteArray) (k : Nat) (h : k < s.size) : (nums s)[k]'(by rw [nums_len]; exact h) = ((s[k]'h).toNat : Int) := by
  unfold nums
  rw [List.getElem_map]
  rfl
def digB (b : Int) : Bool := decide (48 ≤ b ∧ b ≤ 57)
def decF (l : List Int) : Int := l.foldl (fun x b => x * 10 + (b - 48)) 0
theorem decF_app (l : List Int) (b : Int) : decF (l ++ [b]) = decF l * 10 + (b - 48) := by unfold decF; rw [List.foldl_append]; rfl
theorem decF_rev : ∀ r : List Int, r.all digB = true → 0 ≤ decF r.reverse ∧ decF r.reverse < 10 ^ r.length
  | [], _ => ⟨Int.le_refl 0, by decide⟩
  | b :: r, h => by
    rw [List.all_cons, Bool.and_eq_true] at h
    obtain ⟨h1, h2⟩ := h
    have hb : 48 ≤ b ∧ b ≤ 57 := by simpa [digB] using h1
    have := decF_rev r h2
    rw [List.reverse_cons, decF_app, List.length_cons, Int.pow_succ]
    omega
theorem decF_bd (l : List Int) (h : l.all digB = true) : 0 ≤ decF l ∧ decF l < 10 ^ l.length := by
  have := decF_rev l.reverse (by rw [List.all_reverse]; exact h)
  rwa [List.reverse_reverse, List.length_reverse] at this
/-- the bytes of a stretch -/
def strN (s : ByteArray) (a n : Nat) : List Int := ((nums s).drop a).take n
theorem strN_zero (s : ByteArray) (a : Nat) : strN s a 0 = [] := by simp [strN]
theorem strN_succ (s : ByteArray) (a k : Nat) (h : a + k < s.size) : strN s a (k + 1) = strN s a k ++ [((s[a + k]'h).toNat : Int)] := by
  unfold strN
  have hl : k < ((nums s).drop a).length := by rw [List.length_drop, nums_len]; omega
  rw [List.take_succ_eq_append_getElem hl, List.getElem_drop, nums_at s (a + k) h]
theorem strN_len (s : ByteArray) (a n : Nat) (h : a + n ≤ s.size) : (strN s a n).length = n := by
  unfold strN
  rw [List.length_take, List.length_drop, nums_len]
  omega
theorem strN_all (s : ByteArray) (a k n : Nat) (p : Int → Bool) (hk : k < n) (h : a + k < s.size) (hp : p ((s[a + k]'h).toNat : Int) = false) : (strN s a n).all p = false := by
  cases hc : (strN s a n).all p with
  | false => rfl
  | true =>
    rw [List.all_eq_true] at hc
    have hl : k < ((nums s).drop a).length := by rw [List.length_drop, nums_len]; omega
    have hm : ((s[a + k]'h).toNat : Int) ∈ strN s a n := by
      unfold strN
      rw [← nums_at s (a + k) h, ← List.getElem_drop (h := hl)]
      exact List.mem_take_iff_getElem.2 ⟨k, by omega, rfl⟩
    rw [hc _ hm] at hp
    cases hp
def numF (s : ByteArray) (a n : Nat) : Int := if (strN s a n).all digB = true then decF (strN s a n) else -1
theorem ret_int {a b : Int} (h : a = b) : Ending.returned (.int .i64 a) = .returned (.int .i64 b) := by rw [h]
theorem pow_bd (k : Nat) (h : k ≤ 9) : (10 : Int) ^ k ≤ 1000000000 := by
  match k, h with
  | 0, _ | 1, _ | 2, _ | 3, _ | 4, _ | 5, _ | 6, _ | 7, _ | 8, _ | 9, _ => decide

set_option maxHeartbeats 1000000 in
theorem rnumber_any (s : ByteArray) (a n : Nat) (h : a + n ≤ s.size) (hn : n ≤ 9) (hs : s.size ≤ 140737488355328) (w : World) : Calls Tryd.prog 26 #[.string s, .int .i64 a, .int .i64 n] w fun e w' => e = .returned (.int .i64 (numF s a n)) ∧ w = w' := by
  go_enter Tryd.func26, Tryd.ntmps26
  go_wp2_with fail
  go_loopw [7, 8] (fun t7 t8 wr => ∃ (k : Nat) (x : Int), k ≤ n ∧ t8 = .int .i64 ((a + k : Nat) : Int) ∧ t7 = .int .i64 x ∧ 0 ≤ x ∧ x ≤ 1000000000 ∧ Hid ((strN s a k).all digB = true ∧ x = decF (strN s a k)) ∧ w = wr) (fun _ t8 _ => a + n - (intOf t8).toNat)
  case atStart => exact ⟨0, 0, Nat.zero_le _, by go_num, rfl, by omega, by omega, Lib.hid ⟨by rw [strN_zero]; rfl, by rw [strN_zero]; rfl⟩, rfl⟩
  case round =>
    obtain ⟨k, x, hk, rfl, rfl, hx0, hx1, Hx, rfl⟩ := hrel
    by_cases hlt : k < n
    · have hak : a + k < s.size := by omega
      have Hst := Lib.hid (strN_succ s a k hak)
      have Hal := Lib.hid (strN_all s a k n digB hlt hak)
      obtain ⟨c, hc⟩ : ∃ c : Int, ((s[a + k]'hak).toNat : Int) = c := ⟨_, rfl⟩
      have hcb : 0 ≤ c ∧ c ≤ 255 := by have := (s[a + k]'hak).toNat_lt; omega
      have Hc := Lib.hid hc
      obtain ⟨hc0, hc1⟩ := hcb
      rw [hc] at Hst Hal
      rcases (by omega : c < 48 ∨ 57 < c ∨ (48 ≤ c ∧ c ≤ 57)) with hd | hd | ⟨hd, hd'⟩
      · have Hr : Hid (numF s a n = -1) := Lib.hid (by unfold numF; rw [Hal.out (by unfold digB; exact decide_eq_false (by omega))]; rfl)
        go_wp2
        go_ret
        exact ⟨ret_int Hr.out.symm, rfl⟩
      · have Hr : Hid (numF s a n = -1) := Lib.hid (by unfold numF; rw [Hal.out (by unfold digB; exact decide_eq_false (by omega))]; rfl)
        go_wp2
        go_ret
        exact ⟨ret_int Hr.out.symm, rfl⟩
      · have Hn : Hid ((strN s a (k + 1)).all digB = true ∧ x * 10 + c - 48 = decF (strN s a (k + 1))) := Lib.hid (by
          obtain ⟨h1, h2⟩ := Hx.out
          rw [Hst.out, decF_app, List.all_append, h1, ← h2]
          exact ⟨by simp [digB]; omega, by omega⟩)
        have Hb : Hid (0 ≤ x * 10 + c - 48 ∧ x * 10 + c - 48 ≤ 1000000000) := Lib.hid (by
          obtain ⟨h1, h2⟩ := Hn.out
          have h3 := decF_bd _ h1
          rw [strN_len s a (k + 1) (by omega)] at h3
          have h4 := pow_bd (k + 1) (by omega)
          omega)
        go_wp2
        go_roundw
        case rel =>
          exact ⟨k + 1, x * 10 + c - 48, by omega, by go_num, by go_num, Hb.out.1, Hb.out.2, Hn, trivial⟩
        case measure => simp [intOf]; omega
    · obtain rfl : k = n := by omega
      go_wp2
      go_ret
      obtain ⟨h1, h2⟩ := Hx.out
      exact ⟨ret_int (by unfold numF; rw [if_pos h1]; exact h2), rfl⟩
end Go.Proofs.YtijpbfafkdpolaaDoor
