import Derived.Test.YtebfnglhbfkkdaaDoorW1
namespace Go.Proofs.YtebfnglhbfkkdaaDoor
open Go.RowKit Go.Shelf

def nameL : List UInt8 := [33, 35, 36, 38, 45, 94, 95, 46, 43]
def schL : List UInt8 := [43, 45, 46]
def badL : List UInt8 := [34, 60, 62, 92, 94, 96, 123, 124, 125]
def nameCh (x : Int) : Bool := botF x || inC nameL x
def schCh (x : Int) : Bool := botF x || inC schL x
def restCh (x : Int) : Bool := decide (32 < x) && decide (x < 127) && !inC badL x

theorem nm1_any (x : Int) (w : World) (h0 : 0 ≤ x) (h1 : x ≤ 255) : Calls Tryd.prog 35 #[.int .u8 x] w fun e w' => e = .returned (.bool (nameCh x)) ∧ w = w' := by
  have H : Hid (nameCh x = (botF x || decide (0 ≤ Lib.indexByte nameL x.toNat.toUInt8))) := Lib.hid rfl
  have HI := Lib.hid (Tryd.strings_IndexByte ⟨#[33, 35, 36, 38, 45, 94, 95, 46, 43]⟩ x w)
  go_enter Tryd.func35, Tryd.ntmps35
  go_wp2_with fail
  refine (both_any x h0 h1 _).mono ?_
  rintro e w1 ⟨rfl, rfl⟩
  cases h : botF x with
  | true =>
    rw [h] at H
    go_wp2_with fail
    go_ret
    exact ⟨ret_bool (by rw [H.out]; rfl), rfl⟩
  | false =>
    rw [h] at H
    go_wp2_with fail
    refine HI.out.mono ?_
    rintro e w1 ⟨rfl, rfl⟩
    go_wp2_with fail
    go_ret
    exact ⟨ret_bool (by rw [H.out]; rfl), rfl⟩
theorem uri1_any (x : Int) (w : World) (h0 : 0 ≤ x) (h1 : x ≤ 255) : Calls Tryd.prog 30 #[.int .u8 x] w fun e w' => e = .returned (.bool (schCh x)) ∧ w = w' := by
  have H : Hid (schCh x = (botF x || decide (0 ≤ Lib.indexByte schL x.toNat.toUInt8))) := Lib.hid rfl
  have HI := Lib.hid (Tryd.strings_IndexByte ⟨#[43, 45, 46]⟩ x w)
  go_enter Tryd.func30, Tryd.ntmps30
  go_wp2_with fail
  refine (both_any x h0 h1 _).mono ?_
  rintro e w1 ⟨rfl, rfl⟩
  cases h : botF x with
  | true =>
    rw [h] at H
    go_wp2_with fail
    go_ret
    exact ⟨ret_bool (by rw [H.out]; rfl), rfl⟩
  | false =>
    rw [h] at H
    go_wp2_with fail
    refine HI.out.mono ?_
    rintro e w1 ⟨rfl, rfl⟩
    go_wp2_with fail
    go_ret
    exact ⟨ret_bool (by rw [H.out]; rfl), rfl⟩
theorem uri2_any (x : Int) (w : World) (h0 : 0 ≤ x) (h1 : x ≤ 255) : Calls Tryd.prog 32 #[.int .u8 x] w fun e w' => e = .returned (.bool (restCh x)) ∧ w = w' := by
  have H : Hid (restCh x = (decide (32 < x) && decide (x < 127) && !decide (0 ≤ Lib.indexByte badL x.toNat.toUInt8))) := Lib.hid rfl
  have HI := Lib.hid (Tryd.strings_IndexByte ⟨#[34, 60, 62, 92, 94, 96, 123, 124, 125]⟩ x w)
  rcases (by omega : x ≤ 32 ∨ 127 ≤ x ∨ (32 < x ∧ x < 127)) with h | h | ⟨h, h'⟩
  · have Hr : Hid (restCh x = false) := Lib.hid (by rw [H.out, decide_eq_false (by omega)]; rfl)
    go_enter Tryd.func32, Tryd.ntmps32
    go_wp2_with fail
    go_ret
    exact ⟨ret_bool Hr.out.symm, rfl⟩
  · have Hr : Hid (restCh x = false) := Lib.hid (by rw [H.out, decide_eq_false (by omega : ¬ x < 127), Bool.and_false]; rfl)
    go_enter Tryd.func32, Tryd.ntmps32
    go_wp2_with fail
    go_ret
    exact ⟨ret_bool (by rw [Hr.out]), rfl⟩
  · have hd : ∀ a : Int, decide (a < 0) = !decide (0 ≤ a) := fun a => by
      by_cases ha : 0 ≤ a
      · rw [decide_eq_true ha, decide_eq_false (by omega)]; rfl
      · rw [decide_eq_false ha, decide_eq_true (by omega)]; rfl
    have Hd := Lib.hid (hd (Lib.indexByte badL x.toNat.toUInt8))
    clear hd
    have Hr : Hid (restCh x = !decide (0 ≤ Lib.indexByte badL x.toNat.toUInt8)) := Lib.hid (by rw [H.out, decide_eq_true h, decide_eq_true h']; rfl)
    go_enter Tryd.func32, Tryd.ntmps32
    go_wp2_with fail
    refine HI.out.mono ?_
    rintro e w1 ⟨rfl, rfl⟩
    go_wp2_with fail
    go_ret
    exact ⟨ret_bool (by rw [Hr.out, ← Hd.out]; rfl), rfl⟩

theorem both_all (x : Int) (w : World) (h0 : 0 ≤ x) (h1 : x ≤ 255) : Calls Tryd.prog 26 #[.int .u8 x] w fun e w' => e = .returned (.bool (botF x)) ∧ w = w' := both_any x h0 h1 w
theorem letter_all (x : Int) (w : World) (h0 : 0 ≤ x) (h1 : x ≤ 255) : Calls Tryd.prog 25 #[.int .u8 x] w fun e w' => e = .returned (.bool (letF x)) ∧ w = w' := letter_any x h0 h1 w
theorem allName (s : ByteArray) (hs : s.size ≤ 140737488355328) (w : World) : Calls Tryd.prog 29 #[.string s, .func (.func 35) #[] #[]] w fun e w' => e = .returned (.bool (allF nameCh s)) ∧ w = w' :=
  all_any nameCh 35 (enters_of Tryd.func35 (by kernel_rfl) rfl) nm1_any s hs w
theorem allSch (s : ByteArray) (hs : s.size ≤ 140737488355328) (w : World) : Calls Tryd.prog 29 #[.string s, .func (.func 30) #[] #[]] w fun e w' => e = .returned (.bool (allF schCh s)) ∧ w = w' :=
  all_any schCh 30 (enters_of Tryd.func30 (by kernel_rfl) rfl) uri1_any s hs w
theorem allRest (s : ByteArray) (hs : s.size ≤ 140737488355328) (w : World) : Calls Tryd.prog 29 #[.string s, .func (.func 32) #[] #[]] w fun e w' => e = .returned (.bool (allF restCh s)) ∧ w = w' :=
  all_any restCh 32 (enters_of Tryd.func32 (by kernel_rfl) rfl) uri2_any s hs w
theorem allBoth (s : ByteArray) (hs : s.size ≤ 140737488355328) (w : World) : Calls Tryd.prog 29 #[.string s, .func (.func 26) #[] #[]] w fun e w' => e = .returned (.bool (allF botF s)) ∧ w = w' :=
  all_any botF 26 (enters_of Tryd.func26 (by kernel_rfl) rfl) both_all s hs w
theorem allLet (s : ByteArray) (hs : s.size ≤ 140737488355328) (w : World) : Calls Tryd.prog 29 #[.string s, .func (.func 25) #[] #[]] w fun e w' => e = .returned (.bool (allF letF s)) ∧ w = w' :=
  all_any letF 25 (enters_of Tryd.func25 (by kernel_rfl) rfl) letter_all s hs w

def tagF (p : Int → Bool) (s : ByteArray) : Bool := decide (1 ≤ s.size ∧ s.size ≤ 8) && allF p s
theorem tag_walk (p : Int → Bool) (fn : Nat) (s : ByteArray) (hs : s.size ≤ 140737488355328) (w : World)
    (H : Calls Tryd.prog 29 #[.string s, .func (.func fn) #[] #[]] w fun e w' => e = .returned (.bool (allF p s)) ∧ w = w') :
    Calls Tryd.prog 24 #[.string s, .func (.func fn) #[] #[]] w fun e w' => e = .returned (.bool (tagF p s)) ∧ w = w' := by
  have HH := Lib.hid H
  clear H
  rcases (by omega : s.size < 1 ∨ 8 < s.size ∨ (1 ≤ s.size ∧ s.size ≤ 8)) with h | h | ⟨h, h'⟩
  · have Hr : Hid (tagF p s = false) := Lib.hid (by unfold tagF; rw [decide_eq_false (by omega)]; rfl)
    go_enter Tryd.func24, Tryd.ntmps24
    go_wp2_with fail
    go_ret
    exact ⟨ret_bool Hr.out.symm, rfl⟩
  · have Hr : Hid (tagF p s = false) := Lib.hid (by unfold tagF; rw [decide_eq_false (by omega)]; rfl)
    go_enter Tryd.func24, Tryd.ntmps24
    go_wp2_with fail
    go_ret
    exact ⟨ret_bool (by rw [Hr.out]), rfl⟩
  · have Hr : Hid (tagF p s = allF p s) := Lib.hid (by unfold tagF; rw [decide_eq_true ⟨h, h'⟩]; rfl)
    go_enter Tryd.func24, Tryd.ntmps24
    go_wp2_with fail
    refine HH.out.mono ?_
    rintro e w1 ⟨rfl, rfl⟩
    go_wp2_with fail
    go_ret
    exact ⟨ret_bool Hr.out.symm, rfl⟩
theorem tagLet (s : ByteArray) (hs : s.size ≤ 140737488355328) (w : World) : Calls Tryd.prog 24 #[.string s, .func (.func 25) #[] #[]] w fun e w' => e = .returned (.bool (tagF letF s)) ∧ w = w' := tag_walk letF 25 s hs w (allLet s hs w)
theorem tagBoth (s : ByteArray) (hs : s.size ≤ 140737488355328) (w : World) : Calls Tryd.prog 24 #[.string s, .func (.func 26) #[] #[]] w fun e w' => e = .returned (.bool (tagF botF s)) ∧ w = w' := tag_walk botF 26 s hs w (allBoth s hs w)

/-! ### names -/
def headF (p : Int → Bool) (s : ByteArray) : Bool := match nums s with
  | x :: _ => p x
  | [] => false
theorem headF_at (p : Int → Bool) (s : ByteArray) (h : 0 < s.size) : headF p s = p ((s[0]'h).toNat : Int) := by
  have h1 := nums_at s 0 h
  unfold headF
  cases hn : nums s with
  | nil => have := nums_len s; rw [hn] at this; simp at this; omega
  | cons x r =>
    simp only [hn, List.getElem_cons_zero] at h1
    rw [h1]
def nameF (s : ByteArray) : Bool := decide (1 ≤ s.size ∧ s.size ≤ 127) && (headF botF s && allF nameCh s)
theorem nameF_len (s : ByteArray) (h : ¬ (1 ≤ s.size ∧ s.size ≤ 127)) : nameF s = false := by unfold nameF; rw [decide_eq_false h]; rfl
theorem nameF_in (s : ByteArray) (h : 0 < s.size) (h' : s.size ≤ 127) : nameF s = (botF ((s[0]'h).toNat : Int) && allF nameCh s) := by unfold nameF; rw [decide_eq_true ⟨h, h'⟩, headF_at botF s h]; rfl

set_option maxHeartbeats 400000 in
theorem name_any (s : ByteArray) (hs : s.size ≤ 140737488355328) (w : World) : Calls Tryd.prog 21 #[.string s] w fun e w' => e = .returned (.bool (nameF s)) ∧ w = w' := by
  rcases (by omega : s.size < 1 ∨ 127 < s.size ∨ (0 < s.size ∧ s.size ≤ 127)) with h | h | ⟨h, h'⟩
  · have Hr := Lib.hid (nameF_len s (by omega))
    go_enter Tryd.func21, Tryd.ntmps21
    go_wp2_with fail
    go_ret
    exact ⟨ret_bool Hr.out.symm, rfl⟩
  · have Hr := Lib.hid (nameF_len s (by omega))
    go_enter Tryd.func21, Tryd.ntmps21
    go_wp2_with fail
    go_ret
    exact ⟨ret_bool (by rw [Hr.out]), rfl⟩
  · have Hr := Lib.hid (nameF_in s h h')
    have HB := Lib.hid (byte_bd s 0 h)
    go_enter Tryd.func21, Tryd.ntmps21
    go_wp2_with fail
    refine (both_any _ HB.out.1 HB.out.2 _).mono ?_
    rintro e w1 ⟨rfl, rfl⟩
    cases hb : botF ((s[0]'h).toNat : Int) with
    | false =>
      rw [hb] at Hr
      go_wp2_with fail
      go_ret
      exact ⟨ret_bool (by rw [Hr.out]; rfl), rfl⟩
    | true =>
      rw [hb] at Hr
      go_wp2_with fail
      refine (allName s hs _).mono ?_
      rintro e w1 ⟨rfl, rfl⟩
      go_wp2_with fail
      go_ret
      exact ⟨ret_bool (by rw [Hr.out]; rfl), rfl⟩
end Go.Proofs.YtebfnglhbfkkdaaDoor
