import Derived.Test.YtgijjmcjobjoeaaU6
import Derived.Test.YtgijjmcjobjoeaaU3
import Derived.Deep.RegionWith
namespace Go.Proofs.Ytgijjmcjobjoeaa
open Go.RowKit

theorem rP_bd (b : Int) (h : 0 ≤ b ∧ b ≤ 255) : 0 ≤ rP b ∧ rP b ≤ 191 := by
  simp only [rP]
  repeat' split
  all_goals omega
theorem accR_bd (s : ByteArray) (a k : Nat) (hk : 1 ≤ k) : 0 ≤ accR s a k ∧ accR s a k < 192 * 64 ^ (k - 1) := by
  induction k with
  | zero => omega
  | succ k ih =>
    cases k with
    | zero => have := rP_bd _ (gb_bd s a); simp only [accR]; omega
    | succ k =>
      have h := ih (by omega)
      have e : (64 : Int) ^ (k + 1 + 1 - 1) = 64 * 64 ^ (k + 1 - 1) := by
        rw [show k + 1 + 1 - 1 = (k + 1 - 1) + 1 from by omega, Int.pow_succ, Int.mul_comm]
      rw [e]
      simp only [accR]
      generalize (64 : Int) ^ (k + 1 - 1) = q at *
      omega

theorem conv_own {w : World} {B0 n : Nat} {A : Option Addr} {c : Nat} {xs : List Int} (h : w.ownsRow B0 5 1 (.slice A n c) n (xs.map (Value.int .u8))) :
    (convert 42 9 (.slice A n c)).run Try.prog w = .ok (.string (strOfNums xs)) w := by
  have hl := h.1
  rw [List.length_map] at hl
  rcases h.2 with ⟨hv, h0⟩ | ⟨g, cap, cur, hv, _⟩
  · injection hv with hA hn hc
    subst hA
    have hx : xs = [] := List.eq_nil_of_length_eq_zero (by omega)
    subst hx
    exact run_convert_bytes_nil w 42 5 Try.underlying42 Try.underlying5 n c 9 Try.underlying9
  · injection hv with hA hn hc
    subst hA
    refine run_convert_bytes_arg w 42 5 Try.underlying42 Try.underlying5 g 0 n c xs (by omega) ?_ 9 Try.underlying9
    intro i hi
    have := h.cells (g := g) rfl i (.int .u8 xs[i]) (by simp [show i < xs.length by omega])
    rw [Addr.add_lit] at this
    rw [this, List.getD, List.getElem?_eq_getElem (by omega)]
    rfl

set_option maxRecDepth 100000 in
set_option maxHeartbeats 4000000 in
set_option linter.unusedSimpArgs false in
theorem rone_any (s : ByteArray) (at_ : Int) (hs : s.size ≤ 281474976710656) (ha : -9223372036854775808 ≤ at_ ∧ at_ ≤ 9223372036854775807) (w : World) :
    Calls Try.prog 19 #[.string s, .int .i64 at_] w fun e w' => e = .returned (.tuple #[.int .i64 (oneV s at_).1, .int .i64 (oneV s at_).2]) ∧ Below w.heap.size w w' := by
  by_cases h1 : at_ < 0
  · have hv := Lib.hid (oneV_neg s at_ h1)
    go_enter Try.func19, Try.ntmps19
    go_wp2
    go_ret2
    exact ⟨ret_two hv.out, Below.refl _ _⟩
  obtain ⟨a, rfl⟩ := Int.eq_ofNat_of_zero_le (by omega : 0 ≤ at_)
  have Hv := Lib.hid (oneV_nat s a)
  rw [Hv.out]
  by_cases h2 : s.size ≤ a
  · have hv := Lib.hid (dec_end s a h2)
    go_enter Try.func19, Try.ntmps19
    go_wp2
    go_ret2
    exact ⟨ret_two hv.out, Below.refl _ _⟩
  have hlt : a < s.size := by omega
  have g0 := gb_eq s a hlt
  have b0 := gb_bd s a
  have n0 := rN_bd (gb s a)
  obtain ⟨n, hn⟩ := Int.eq_ofNat_of_zero_le (by omega : 0 ≤ rN (gb s a))
  have hn1 : 1 ≤ n ∧ n ≤ 4 := by omega
  have hshort := Lib.hid (ref_short s a)
  have Hn := Lib.hid hn
  have hacc1 : accR s a 1 = rP (gb s a) := rfl
  have Hacc1 := Lib.hid hacc1
  clear hn n0 hacc1
  obtain ⟨b, hb⟩ : ∃ b, gb s a = b := ⟨_, rfl⟩
  have Hb := Lib.hid hb
  rw [hb] at g0 b0
  clear hb
  go_enter Try.func19, Try.ntmps19
  go_upto_if 24 with (fail)
  go_cut [7, 8] (fun s7 s8 wx => s7 = .int .i64 (if 192 ≤ b then 2 else 1) ∧ s8 = .int .i64 (if 192 ≤ b then b - 192 else b) ∧ w = wx)
  case first =>
    go_wp2
    · have h : 192 ≤ b := by assumption
      go_meet
      exact ⟨by rw [if_pos h], by rw [if_pos h], rfl⟩
    · have h : b < 192 := by assumption
      go_meet
      exact ⟨by rw [if_neg (by omega)], by rw [if_neg (by omega)], rfl⟩
  case rest =>
  obtain ⟨rfl, rfl, rfl⟩ := hcut
  obtain ⟨n1, hn1'⟩ : ∃ n1 : Int, n1 = (if 192 ≤ b then 2 else 1) := ⟨_, rfl⟩
  obtain ⟨p1, hp1'⟩ : ∃ p1 : Int, p1 = (if 192 ≤ b then b - 192 else b) := ⟨_, rfl⟩
  rw [← hn1', ← hp1']
  have Hn1 := Lib.hid hn1'
  have Hp1 := Lib.hid hp1'
  clear hn1' hp1'
  go_upto_if 28 with (fail)
  go_cut [7, 8] (fun s7 s8 wx => s7 = .int .i64 (if 224 ≤ b then 3 else n1) ∧ s8 = .int .i64 (if 224 ≤ b then b - 224 else p1) ∧ w = wx)
  case first =>
    go_wp2
    · have h : 224 ≤ b := by assumption
      go_meet
      exact ⟨by rw [if_pos h], by rw [if_pos h], rfl⟩
    · have h : b < 224 := by assumption
      go_meet
      exact ⟨by rw [if_neg (by omega)], by rw [if_neg (by omega)], rfl⟩
  case rest =>
  obtain ⟨rfl, rfl, rfl⟩ := hcut
  obtain ⟨n2, hn2'⟩ : ∃ n2 : Int, n2 = (if 224 ≤ b then 3 else n1) := ⟨_, rfl⟩
  obtain ⟨p2, hp2'⟩ : ∃ p2 : Int, p2 = (if 224 ≤ b then b - 224 else p1) := ⟨_, rfl⟩
  rw [← hn2', ← hp2']
  have Hn2 := Lib.hid hn2'
  have Hp2 := Lib.hid hp2'
  clear hn2' hp2'
  go_upto_if 32 with (fail)
  go_cut [7, 8] (fun s7 s8 wx => s7 = .int .i64 (if 240 ≤ b then 4 else n2) ∧ s8 = .int .i64 (if 240 ≤ b then b - 240 else p2) ∧ w = wx)
  case first =>
    go_wp2
    · have h : 240 ≤ b := by assumption
      go_meet
      exact ⟨by rw [if_pos h], by rw [if_pos h], rfl⟩
    · have h : b < 240 := by assumption
      go_meet
      exact ⟨by rw [if_neg (by omega)], by rw [if_neg (by omega)], rfl⟩
  case rest =>
  obtain ⟨rfl, rfl, rfl⟩ := hcut
  have hN : (if 240 ≤ b then 4 else n2) = (n : Int) := by rw [← Hn.out, Hb.out, Hn2.out, Hn1.out]; rfl
  have hP : (if 240 ≤ b then b - 240 else p2) = accR s a 1 := by rw [Hacc1.out, Hb.out, Hp2.out, Hp1.out]; rfl
  rw [hN, hP]
  have bd1 : 0 ≤ accR s a 1 ∧ accR s a 1 ≤ 191 := by rw [Hacc1.out]; exact rP_bd _ (gb_bd s a)
  clear hN hP Hn1 Hn2 Hp1 Hp2
  by_cases h4 : (s.size : Int) - a < n
  · have hv := Lib.hid (hshort.out (by rw [Hn.out]; exact h4))
    go_wp2
    go_ret2
    exact ⟨ret_two hv.out, Below.refl _ _⟩
  have hall := ref_dec s a n hlt Hn.out (by omega)
  have Hall := Lib.hid hall
  clear hall
  have hstr := str_eq_iff s (encL (accR s a n)) (encL_isB _) a n (by omega)
  have Hstr := Lib.hid hstr
  clear hstr
  go_wp2
  go_loop [8, 9] (fun t8 t9 => ∃ k : Nat, 1 ≤ k ∧ k ≤ n ∧ t9 = .int .i64 k ∧ t8 = .int .i64 (accR s a k)) (fun _ t9 => n - (intOf t9).toNat)
  case atStart => exact ⟨1, Nat.le_refl _, by omega, rfl, rfl⟩
  case round =>
    obtain ⟨k, hk1, hk2, rfl, rfl⟩ := hrel
    have bd : 0 ≤ accR s a k ∧ accR s a k ≤ 50331647 := by
      have h := accR_bd s a k hk1
      rcases (by omega : k = 1 ∨ k = 2 ∨ k = 3 ∨ k = 4) with rfl | rfl | rfl | rfl
      all_goals simp only [Nat.add_one_sub_one, Nat.sub_self, Nat.reduceSub, Int.pow_zero, Int.reducePow, Int.reduceMul] at h
      all_goals omega
    by_cases hkn : k < n
    · have hk' : a + k < s.size := by omega
      have gk := gb_eq s (a + k) hk'
      have bk := gb_bd s (a + k)
      have Hacc : Hid (accR s a (k + 1) = accR s a k * 64 + gb s (a + k) % 64) := Lib.hid (by
        obtain ⟨k', rfl⟩ : ∃ k', k = k' + 1 := ⟨k - 1, by omega⟩
        rfl)
      go_wp2
      go_round
      case rel => exact ⟨k + 1, by omega, by omega, by go_num, by rw [Hacc.out]⟩
      case measure => simp [intOf]; omega
    · have hk : k = n := by omega
      subst hk
      have e3 : a + k ≤ s.size := by omega
      have e1 : IntKind.i64.wrap ((a : Int) + k) = (a : Int) + k := IntWalk.i64_in _ (by omega)
      have e2 : ((a : Int) + k).toNat = a + k := by omega
      have e4 : (0 : Int) ≤ (a : Int) + k := by omega
      go_upto_region 21 with (fail)
      go_cut [65] (fun s65 wx => s65 = .bool (!((strOfNums (encL (accR s a k))).toList == (s.extract a (a + k)).toList)) ∧ Below w.heap.size w wx)
      case first =>
        go_region_with (go_at_call 22; refine (bytes_any _ ?_ _).mono ?_; omega; rintro e w' ⟨A1, c1, rfl, ho1, hb1⟩; have hcv := conv_own ho1)
        all_goals
          go_wp2_with fail
          go_meet
          exact ⟨rfl, (Below.refl _ _).drew.trans hb1⟩
      case rest =>
        obtain ⟨rfl, hbl⟩ := hcut
        rcases Hall.out with ⟨y1, y2⟩ | ⟨y1, y2⟩
        · have e5 := eqS (Hstr.out.2 y1)
          have Y := Lib.hid y2
          clear y1 y2
          rw [e5]
          go_wp2
          go_ret2
          exact ⟨ret_two Y.out, hbl⟩
        · have e5 := neS (fun e => y1 (Hstr.out.1 e))
          have Y := Lib.hid y2
          clear y1 y2
          rw [e5]
          go_wp2
          go_ret2
          exact ⟨ret_two Y.out, hbl⟩
end Go.Proofs.Ytgijjmcjobjoeaa
