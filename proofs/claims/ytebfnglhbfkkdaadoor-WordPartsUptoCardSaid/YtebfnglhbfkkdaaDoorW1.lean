import Derived.Test.YtebfnglhbfkkdaaDoorRows
import Derived.Test.YtebfnglhbfkkdaaDoorP1
import Derived.Test.YtebfnglhbfkkdaaDoorMem2
import Derived.Test.YtebfnglhbfkkdaaDoorShelf
import Derived.WalkLawsBesides
import Derived.Deep.QuietTactic
import Derived.BigQuiet
import Derived.Shelf.Abstract
import Derived.Shelf.RegionOpen
namespace Go.Proofs.YtebfnglhbfkkdaaDoor
open Go.RowKit Go.Shelf

def letF (x : Int) : Bool := decide ((97 ≤ x ∧ x ≤ 122) ∨ (65 ≤ x ∧ x ≤ 90))
def digF (x : Int) : Bool := decide (48 ≤ x ∧ x ≤ 57)
def botF (x : Int) : Bool := letF x || digF x
theorem dt {p : Prop} [Decidable p] (h : p) : true = decide p := (decide_eq_true h).symm
theorem df {p : Prop} [Decidable p] (h : ¬ p) : false = decide p := (decide_eq_false h).symm

set_option maxHeartbeats 1000000 in
theorem letter_any (x : Int) (h0 : 0 ≤ x) (h1 : x ≤ 255) (w : World) : Calls Tryd.prog 25 #[.int .u8 x] w fun e w' => e = .returned (.bool (letF x)) ∧ w = w' := by
  rcases (by omega : x < 65 ∨ (65 ≤ x ∧ x ≤ 90) ∨ (90 < x ∧ x < 97) ∨ (97 ≤ x ∧ x ≤ 122) ∨ 122 < x) with h | ⟨h, h'⟩ | ⟨h, h'⟩ | ⟨h, h'⟩ | h
  all_goals
    go_enter Tryd.func25, Tryd.ntmps25
    go_wp2
    go_ret
    exact ⟨ret_bool (by unfold letF; rw [Bool.eq_iff_iff]; simp only [Bool.or_eq_true, decide_eq_true_eq, Bool.false_eq_true, true_iff, false_iff]; omega), rfl⟩
set_option maxHeartbeats 1000000 in
theorem rletter_any (x : Int) (h0 : 0 ≤ x) (h1 : x ≤ 255) (w : World) : Calls Tryd.prog 27 #[.int .u8 x] w fun e w' => e = .returned (.bool (letF x)) ∧ w = w' := by
  rcases (by omega : x < 65 ∨ (65 ≤ x ∧ x ≤ 90) ∨ (90 < x ∧ x < 97) ∨ (97 ≤ x ∧ x ≤ 122) ∨ 122 < x) with h | ⟨h, h'⟩ | ⟨h, h'⟩ | ⟨h, h'⟩ | h
  all_goals
    go_enter Tryd.func27, Tryd.ntmps27
    go_wp2
    go_ret
    exact ⟨ret_bool (by unfold letF; rw [Bool.eq_iff_iff]; simp only [Bool.or_eq_true, decide_eq_true_eq, Bool.false_eq_true, true_iff, false_iff]; omega), rfl⟩
theorem digit_any (x : Int) (h0 : 0 ≤ x) (h1 : x ≤ 255) (w : World) : Calls Tryd.prog 37 #[.int .u8 x] w fun e w' => e = .returned (.bool (digF x)) ∧ w = w' := by
  rcases (by omega : x < 48 ∨ (48 ≤ x ∧ x ≤ 57) ∨ 57 < x) with h | ⟨h, h'⟩ | h
  all_goals
    go_enter Tryd.func37, Tryd.ntmps37
    go_wp2
    go_ret
    exact ⟨ret_bool (by unfold digF; rw [Bool.eq_iff_iff]; simp only [Bool.or_eq_true, decide_eq_true_eq, Bool.false_eq_true, true_iff, false_iff]; omega), rfl⟩
theorem rdigit_any (x : Int) (h0 : 0 ≤ x) (h1 : x ≤ 255) (w : World) : Calls Tryd.prog 28 #[.int .u8 x] w fun e w' => e = .returned (.bool (digF x)) ∧ w = w' := by
  rcases (by omega : x < 48 ∨ (48 ≤ x ∧ x ≤ 57) ∨ 57 < x) with h | ⟨h, h'⟩ | h
  all_goals
    go_enter Tryd.func28, Tryd.ntmps28
    go_wp2
    go_ret
    exact ⟨ret_bool (by unfold digF; rw [Bool.eq_iff_iff]; simp only [Bool.or_eq_true, decide_eq_true_eq, Bool.false_eq_true, true_iff, false_iff]; omega), rfl⟩
theorem both_any (x : Int) (h0 : 0 ≤ x) (h1 : x ≤ 255) (w : World) : Calls Tryd.prog 26 #[.int .u8 x] w fun e w' => e = .returned (.bool (botF x)) ∧ w = w' := by
  have H : Hid (botF x = (letF x || digF x)) := Lib.hid rfl
  go_enter Tryd.func26, Tryd.ntmps26
  go_wp2_with fail
  refine (letter_any x h0 h1 _).mono ?_
  rintro e w1 ⟨rfl, rfl⟩
  cases h : letF x with
  | true =>
    rw [h] at H
    go_wp2_with fail
    go_ret
    exact ⟨ret_bool (by rw [H.out]; rfl), rfl⟩
  | false =>
    rw [h] at H
    go_wp2_with fail
    refine (digit_any x h0 h1 _).mono ?_
    rintro e w1 ⟨rfl, rfl⟩
    go_wp2_with fail
    go_ret
    exact ⟨ret_bool (by rw [H.out]; rfl), rfl⟩

/-! ### a byte of a list -/
def byt (x : Int) : UInt8 := x.toNat.toUInt8
def inC (l : List UInt8) (x : Int) : Bool := decide (0 ≤ Lib.indexByte l (byt x))
theorem indexByte_mem (c : UInt8) : ∀ l : List UInt8, 0 ≤ Lib.indexByte l c ↔ c ∈ l
  | [] => by simp [Lib.indexByte]
  | b :: l => by
    have ih := indexByte_mem c l
    have hg := Lib.indexByte_ge l c
    unfold Lib.indexByte
    by_cases h : b = c
    · subst h; simp
    · have h1 : (b == c) = false := beq_eq_false_iff_ne.2 h
      rw [h1, if_neg (by decide)]
      by_cases h2 : Lib.indexByte l c = -1
      · rw [if_pos (beq_iff_eq.2 h2)]
        have h3 : ¬ c ∈ l := fun hm => by have := ih.2 hm; omega
        have h4 : c ≠ b := fun e => h e.symm
        simp [h3, h4]
      · rw [if_neg (by simpa using h2)]
        have h3 : c ∈ l := ih.1 (by omega)
        constructor
        · intro _; exact List.mem_cons_of_mem _ h3
        · intro _; omega
theorem inC_mem (l : List UInt8) (x : Int) : inC l x = true ↔ byt x ∈ l := by unfold inC; rw [decide_eq_true_iff]; exact indexByte_mem _ _
theorem byt_toNat (x : Int) (h0 : 0 ≤ x) (h1 : x ≤ 255) : ((byt x).toNat : Int) = x := by
  unfold byt
  rw [show x.toNat.toUInt8 = UInt8.ofNat x.toNat from rfl, UInt8.toNat_ofNat']
  omega

set_option maxHeartbeats 400000 in
theorem has_any (s : ByteArray) (x : Int) (h0 : 0 ≤ x) (h1 : x ≤ 255) (hs : s.size ≤ 1000000) (w : World) :
    Calls Tryd.prog 33 #[.string s, .int .u8 x] w fun e w' => e = .returned (.bool (inC s.data.toList x)) ∧ w = w' := by
  have Hu := Lib.hid (byt_toNat x h0 h1)
  go_enter Tryd.func33, Tryd.ntmps33
  go_wp2
  go_loopw [5] (fun i wr => ∃ k : Nat, k ≤ s.size ∧ i = .int .i64 k ∧ Hid (NoC s (byt x) 0 k) ∧ w = wr) (fun i _ => s.size - (intOf i).toNat)
  case atStart => exact ⟨0, Nat.zero_le _, rfl, Lib.hid (NoC.nil _ _ _), rfl⟩
  case round =>
    obtain ⟨k, hk, rfl, Hn, rfl⟩ := hrel
    by_cases hlt : k < s.size
    · by_cases hx : ((s[k]'hlt).toNat : Int) = x
      · have Hres : Hid (inC s.data.toList x = true) := Lib.hid (by
          rw [inC_mem]
          have e : byt x = s[k]'hlt := UInt8.toNat_inj.1 (by have := Hu.out; omega)
          rw [e]
          exact List.getElem_mem (by simpa using hlt : k < s.data.toList.length))
        have b1 : (((s[k]'hlt).toNat : Int) == x) = true := beq_iff_eq.2 hx
        clear hx
        go_wp2
        go_ret
        exact ⟨ret_bool Hres.out.symm, rfl⟩
      · have Hn2 := Lib.hid (Hn.out.succ hlt (by rw [Hu.out]; exact hx))
        have b1 : (((s[k]'hlt).toNat : Int) == x) = false := beq_eq_false_iff_ne.2 hx
        clear hx
        go_wp2
        go_roundw
        case rel => exact ⟨k + 1, by omega, by go_num, Hn2, trivial⟩
        case measure => simp [intOf]; omega
    · have Hres : Hid (inC s.data.toList x = false) := Lib.hid (by
        cases hc : inC s.data.toList x with
        | false => rfl
        | true =>
          rw [inC_mem] at hc
          obtain ⟨j, hj, e⟩ := List.getElem_of_mem hc
          have hl : s.data.toList.length = s.size := by simp
          exact absurd e (Hn.out j (by omega) (Nat.zero_le _) (by omega)))
      go_wp2
      go_ret
      exact ⟨ret_bool Hres.out.symm, rfl⟩

/-! ### all of a text's bytes -/
def nums (s : ByteArray) : List Int := s.data.toList.map fun b => (b.toNat : Int)
theorem nums_len (s : ByteArray) : (nums s).length = s.size := by simp [nums]
def allF (p : Int → Bool) (s : ByteArray) : Bool := (nums s).all p
theorem nums_at (s : ByteArray) (k : Nat) (h : k < s.size) : (nums s)[k]'(by rw [nums_len]; exact h) = ((s[k]'h).toNat : Int) := by
  unfold nums
  rw [List.getElem_map]
  rfl
theorem all_step (s : ByteArray) (p : Int → Bool) (k : Nat) (h : k < s.size) : ((nums s).take (k + 1)).all p = (((nums s).take k).all p && p ((s[k]'h).toNat : Int)) := by
  rw [take_succ_eq (nums s) k (by rw [nums_len]; exact h), List.all_append, nums_at s k h]; simp
theorem all_miss (s : ByteArray) (p : Int → Bool) (k : Nat) (h : k < s.size) (hf : p ((s[k]'h).toNat : Int) = false) : allF p s = false := by
  unfold allF
  cases hc : (nums s).all p with
  | false => rfl
  | true =>
    have := List.all_eq_true.1 hc _ (List.getElem_mem (by rw [nums_len]; exact h : k < (nums s).length))
    rw [nums_at s k h, hf] at this
    cases this
theorem byte_bd (s : ByteArray) (k : Nat) (h : k < s.size) : (0 : Int) ≤ ((s[k]'h).toNat : Int) ∧ ((s[k]'h).toNat : Int) ≤ 255 := by
  have := (s[k]'h).toNat_lt; omega

set_option maxHeartbeats 400000 in
theorem all_any (p : Int → Bool) (fn : Nat) (hE : ∀ args w, (callFunc fn args).run Tryd.prog w = .ok (.enter fn args) w)
    (H : ∀ (x : Int) (w : World), 0 ≤ x → x ≤ 255 → Calls Tryd.prog fn #[.int .u8 x] w fun e w' => e = .returned (.bool (p x)) ∧ w = w')
    (s : ByteArray) (hs : s.size ≤ 140737488355328) (w : World) :
    Calls Tryd.prog 29 #[.string s, .func (.func fn) #[] #[]] w fun e w' => e = .returned (.bool (allF p s)) ∧ w = w' := by
  have HH := Lib.hid H
  clear H
  go_enter Tryd.func29, Tryd.ntmps29
  go_wp2
  go_loopw [8] (fun i wr => ∃ k : Nat, k ≤ s.size ∧ i = .int .i64 k ∧ Hid (((nums s).take k).all p = true) ∧ w = wr) (fun i _ => s.size - (intOf i).toNat)
  case atStart => exact ⟨0, Nat.zero_le _, rfl, Lib.hid (by simp), rfl⟩
  case round =>
    obtain ⟨k, hk, rfl, Hn, rfl⟩ := hrel
    by_cases hlt : k < s.size
    · have Hst := Lib.hid (all_step s p k hlt)
      have Hmiss := Lib.hid (all_miss s p k hlt)
      have HB := Lib.hid (byte_bd s k hlt)
      cases hp : p ((s[k]'hlt).toNat : Int) with
      | true =>
        rw [hp] at Hst
        have Hn2 : Hid (((nums s).take (k + 1)).all p = true) := Lib.hid (by rw [Hst.out, Hn.out]; rfl)
        go_wp2_with (go_at_fn fn; refine (HH.out _ _ HB.out.1 HB.out.2).mono ?_; rintro e w' ⟨rfl, rfl⟩)
        go_roundw
        case rel => exact ⟨k + 1, by omega, by go_num, Hn2, trivial⟩
        case measure => simp [intOf]; omega
      | false =>
        have Hres := Lib.hid (Hmiss.out hp)
        go_wp2_with (go_at_fn fn; refine (HH.out _ _ HB.out.1 HB.out.2).mono ?_; rintro e w' ⟨rfl, rfl⟩)
        go_ret
        exact ⟨ret_bool Hres.out.symm, rfl⟩
    · have Hres : Hid (allF p s = true) := Lib.hid (by
        have := Hn.out
        rwa [List.take_of_length_le (by rw [nums_len]; omega)] at this)
      go_wp2
      go_ret
      exact ⟨ret_bool Hres.out.symm, rfl⟩
end Go.Proofs.YtebfnglhbfkkdaaDoor
