import Derived.Test.YtgijjmcjobjoeaaA1
import Derived.Test.YtgijjmcjobjoeaaMem2
import Derived.Laws.BytesString
namespace Go.Proofs.Ytgijjmcjobjoeaa
open Go.RowKit

theorem tup2 {k l : IntKind} {a b c d : Int} (h : a = c) (h2 : b = d) : Value.tuple #[.int k a, .int l b] = .tuple #[.int k c, .int l d] := by rw [h, h2]
/-- how many bytes a first byte begins -/
def szN (b : Int) : Int := if b < 128 then 1 else if b < 194 then 0 else if b < 224 then 2 else if b < 240 then 3 else if b < 245 then 4 else 0
/-- its own bits -/
def szP (b : Int) : Int := if b < 128 then b else if b < 194 then 0 else if b < 224 then b % 32 else if b < 240 then b % 16 else if b < 245 then b % 8 else 0
def fitsF (p n : Int) : Bool := if n = 3 then decide (2048 ≤ p ∧ (p < 55296 ∨ 57343 < p)) else if n = 4 then decide (65536 ≤ p ∧ p ≤ 1114111) else true
def isF (n : Int) : Bool := decide (0 ≤ n ∧ n ≤ 1114111 ∧ (n < 55296 ∨ 57343 < n))

set_option maxHeartbeats 400000 in
theorem size_any (b : Int) (hb : 0 ≤ b ∧ b ≤ 255) (w : World) :
    Calls Try.prog 32 #[.int .u8 b] w fun e w' => e = .returned (.tuple #[.int .i64 (szN b), .int .i32 (szP b)]) ∧ w = w' := by
  go_enter Try.func32, Try.ntmps32
  go_wp2
  all_goals go_ret2
  all_goals refine ⟨congrArg Ending.returned (tup2 ?_ ?_), rfl⟩
  all_goals simp only [szN, szP]
  all_goals repeat' split
  all_goals omega

set_option maxHeartbeats 400000 in
theorem fits_any (p n : Int) (hp : 0 ≤ p ∧ p ≤ 16777215) (hn : 0 ≤ n ∧ n ≤ 4) (w : World) :
    Calls Try.prog 33 #[.int .i32 p, .int .i64 n] w fun e w' => e = .returned (.bool (fitsF p n)) ∧ w = w' := by
  by_cases h3 : n = 3
  · subst h3
    go_enter Try.func33, Try.ntmps33
    go_wp2
    all_goals go_ret
    all_goals refine ⟨ret_bool ?_, rfl⟩
    all_goals simp only [fitsF, if_true]
    all_goals rw [Bool.eq_iff_iff]
    all_goals simp
    all_goals omega
  by_cases h4 : n = 4
  · subst h4
    go_enter Try.func33, Try.ntmps33
    go_wp2
    all_goals go_ret
    all_goals refine ⟨ret_bool ?_, rfl⟩
    all_goals simp only [fitsF]
    all_goals rw [Bool.eq_iff_iff]
    all_goals simp
    all_goals omega
  have e3 : (n == 3) = false := by simp [h3]
  have e4 : (n == 4) = false := by simp [h4]
  have hf : fitsF p n = true := by simp [fitsF, h3, h4]
  have Hf := Lib.hid hf
  clear h3 h4 hf
  go_enter Try.func33, Try.ntmps33
  go_wp2
  go_ret
  exact ⟨ret_bool Hf.out.symm, rfl⟩

set_option maxHeartbeats 400000 in
theorem is_any (n : Int) (w : World) :
    Calls Try.prog 35 #[.int .i64 n] w fun e w' => e = .returned (.bool (isF n)) ∧ w = w' := by
  go_enter Try.func35, Try.ntmps35
  go_wp2
  all_goals go_ret
  all_goals refine ⟨ret_bool ?_, rfl⟩
  all_goals simp only [isF]
  all_goals rw [Bool.eq_iff_iff]
  all_goals simp
  all_goals omega

/-! ### bytes -/
/-- byte number i of a text (0 behind its end) -/
def gb (s : ByteArray) (i : Nat) : Int := ((s.data.toList.getD i 0).toNat : Nat)
theorem gb_bd (s : ByteArray) (i : Nat) : 0 ≤ gb s i ∧ gb s i ≤ 255 := by
  unfold gb
  have := (s.data.toList.getD i 0).toNat_lt
  omega
theorem gb_eq (s : ByteArray) (i : Nat) (h : i < s.size) : ((s[i]'h).toNat : Int) = gb s i := by
  unfold gb
  have e : s.data.toList.getD i 0 = s[i]'h := by
    rw [List.getD, List.getElem?_eq_getElem (by simpa using h)]
    rfl
  rw [e]
/-- the number of the first k bytes of a point -/
def accF (s : ByteArray) (at_ : Nat) : Nat → Int
  | 0 => 0
  | 1 => szP (gb s at_)
  | k + 2 => accF s at_ (k + 1) * 64 + (gb s (at_ + (k + 1)) - 128)
def cont (b : Int) : Prop := 128 ≤ b ∧ b ≤ 191
theorem accF_bd (s : ByteArray) (at_ k : Nat) (hk : 1 ≤ k) (hk4 : k ≤ 4) (hp : szP (gb s at_) ≤ 31 ∧ 0 ≤ szP (gb s at_)) (hc : ∀ j, 1 ≤ j → j < k → cont (gb s (at_ + j))) :
    0 ≤ accF s at_ k ∧ accF s at_ k < 32 * 64 ^ (k - 1) := by
  induction k with
  | zero => omega
  | succ k ih =>
    cases k with
    | zero => simp only [accF]; omega
    | succ k =>
      have h := ih (by omega) (by omega) (fun j a b => hc j a (by omega))
      have c := hc (k + 1) (by omega) (by omega)
      unfold cont at c
      have e : (64 : Int) ^ (k + 1 + 1 - 1) = 64 * 64 ^ (k + 1 - 1) := by
        rw [show k + 1 + 1 - 1 = (k + 1 - 1) + 1 from by omega, Int.pow_succ, Int.mul_comm]
      rw [e]
      simp only [accF]
      generalize (64 : Int) ^ (k + 1 - 1) = q at *
      omega
end Go.Proofs.Ytgijjmcjobjoeaa
