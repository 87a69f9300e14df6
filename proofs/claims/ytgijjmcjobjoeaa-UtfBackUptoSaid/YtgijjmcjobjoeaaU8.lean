import Derived.Test.YtgijjmcjobjoeaaU7
namespace Go.Proofs.Ytgijjmcjobjoeaa
open Go.RowKit

/-- what is read at a place is nothing, or a point that fits into the text -/
theorem decF_ok (s : ByteArray) (a : Nat) : ((decF s a).2 = 0 ∧ (decF s a).1 = 0) ∨ (1 ≤ (decF s a).2 ∧ (decF s a).2 ≤ 4 ∧ (a : Int) + (decF s a).2 ≤ s.size ∧ 0 ≤ (decF s a).1 ∧ (decF s a).1 ≤ 1114111 ∧ ¬ (55296 ≤ (decF s a).1 ∧ (decF s a).1 ≤ 57343)) := by
  have hg := gb_bd s a
  unfold decF
  repeat' split
  all_goals first | exact .inl ⟨rfl, rfl⟩ | (right; simp only; omega)
/-- the number of bytes of the point at a place -/
def stepN (s : ByteArray) (a : Nat) : Nat := (decF s a).2.toNat
theorem stepN_bd (s : ByteArray) (a : Nat) : stepN s a ≤ 4 ∧ (stepN s a = 0 ∨ a + stepN s a ≤ s.size) ∧ (decF s a).2 = stepN s a := by
  have := decF_ok s a
  unfold stepN
  omega

/-- where the points from a place on end -/
def endK (s : ByteArray) : Nat → Nat → Nat
  | 0, a => a
  | f + 1, a => if stepN s a = 0 then a else endK s f (a + stepN s a)
def endF (s : ByteArray) (a : Nat) : Nat := endK s (s.size - a) a
/-- the points from a place on -/
def ptsK (s : ByteArray) : Nat → Nat → List Int
  | 0, _ => []
  | f + 1, a => if stepN s a = 0 then [] else (decF s a).1 :: ptsK s f (a + stepN s a)
def ptsF (s : ByteArray) (a : Nat) : List Int := ptsK s (s.size - a) a

theorem stepN_end (s : ByteArray) (a : Nat) (h : s.size ≤ a) : stepN s a = 0 := by
  unfold stepN; rw [dec_end s a h]; rfl
theorem endK_two (s : ByteArray) : ∀ (f g a : Nat), s.size - a ≤ f → s.size - a ≤ g → endK s f a = endK s g a := by
  intro f
  induction f with
  | zero =>
    intro g a h1 h2
    cases g with
    | zero => rfl
    | succ g => simp only [endK]; rw [if_pos (stepN_end s a (by omega))]
  | succ f ih =>
    intro g a h1 h2
    have hb := stepN_bd s a
    cases g with
    | zero => simp only [endK]; rw [if_pos (stepN_end s a (by omega))]
    | succ g =>
      simp only [endK]
      by_cases h0 : stepN s a = 0
      · rw [if_pos h0, if_pos h0]
      · rw [if_neg h0, if_neg h0]
        exact ih g _ (by omega) (by omega)
theorem ptsK_two (s : ByteArray) : ∀ (f g a : Nat), s.size - a ≤ f → s.size - a ≤ g → ptsK s f a = ptsK s g a := by
  intro f
  induction f with
  | zero =>
    intro g a h1 h2
    cases g with
    | zero => rfl
    | succ g => simp only [ptsK]; rw [if_pos (stepN_end s a (by omega))]
  | succ f ih =>
    intro g a h1 h2
    have hb := stepN_bd s a
    cases g with
    | zero => simp only [ptsK]; rw [if_pos (stepN_end s a (by omega))]
    | succ g =>
      simp only [ptsK]
      by_cases h0 : stepN s a = 0
      · rw [if_pos h0, if_pos h0]
      · rw [if_neg h0, if_neg h0, ih g _ (by omega) (by omega)]
theorem endF_stop (s : ByteArray) (a : Nat) (h : stepN s a = 0) : endF s a = a := by
  unfold endF
  cases s.size - a with
  | zero => rfl
  | succ m => simp only [endK]; rw [if_pos h]
theorem endF_go (s : ByteArray) (a : Nat) (h : stepN s a ≠ 0) : endF s a = endF s (a + stepN s a) := by
  have hb := stepN_bd s a
  unfold endF
  have hm : s.size - a = (s.size - a - 1) + 1 := by omega
  rw [hm]
  simp only [endK]
  rw [if_neg h]
  exact endK_two s _ _ _ (by omega) (Nat.le_refl _)
theorem ptsF_stop (s : ByteArray) (a : Nat) (h : stepN s a = 0) : ptsF s a = [] := by
  unfold ptsF
  cases s.size - a with
  | zero => rfl
  | succ m => simp only [ptsK]; rw [if_pos h]
theorem ptsF_go (s : ByteArray) (a : Nat) (h : stepN s a ≠ 0) : ptsF s a = (decF s a).1 :: ptsF s (a + stepN s a) := by
  have hb := stepN_bd s a
  unfold ptsF
  have hm : s.size - a = (s.size - a - 1) + 1 := by omega
  rw [hm]
  simp only [ptsK]
  rw [if_neg h]
  congr 1
  exact ptsK_two s _ _ _ (by omega) (Nat.le_refl _)
theorem endF_bd (s : ByteArray) (a : Nat) (ha : a ≤ s.size) : a ≤ endF s a ∧ endF s a ≤ s.size := by
  obtain ⟨d, hd⟩ : ∃ d, s.size - a ≤ d := ⟨_, Nat.le_refl _⟩
  induction d generalizing a with
  | zero => rw [endF_stop s a (stepN_end s a (by omega))]; omega
  | succ d ih =>
    have hb := stepN_bd s a
    by_cases h0 : stepN s a = 0
    · rw [endF_stop s a h0]; omega
    · rw [endF_go s a h0]
      have := ih (a + stepN s a) (by omega) (by omega)
      omega

set_option maxHeartbeats 1000000 in
theorem bad_any (s : ByteArray) (hs : s.size ≤ 281474976710656) (w : World) :
    Calls Try.prog 23 #[.string s] w fun e w' => e = .returned (.int .i64 (endF s 0)) ∧ w = w' := by
  go_enter Try.func23, Try.ntmps23
  go_wp2
  go_loop [3, 4, 5] (fun t3 t4 t5 => ∃ a : Nat, a ≤ s.size ∧ t3 = .int .i64 a ∧ endF s a = endF s 0) (fun t3 _ _ => s.size - (intOf t3).toNat)
  case atStart => exact ⟨0, Nat.zero_le _, rfl, rfl⟩
  case round =>
    obtain ⟨a, ha, rfl, he⟩ := hrel
    have He := Lib.hid he
    have Hv := Lib.hid (oneV_nat s a)
    have hb := stepN_bd s a
    have Hd := Lib.hid hb.2.2
    have hb1 := hb.1
    have hb2 := hb.2.1
    have Hstop := Lib.hid (endF_stop s a)
    have Hgo := Lib.hid (endF_go s a)
    clear he hb
    by_cases hlt : a < s.size
    · obtain ⟨p, hp⟩ : ∃ p, (decF s a).1 = p := ⟨_, rfl⟩
      obtain ⟨m, hm⟩ : ∃ m, stepN s a = m := ⟨_, rfl⟩
      rw [hm] at hb1 hb2
      have Hp := Lib.hid hp
      have Hm := Lib.hid hm
      clear hp hm
      by_cases h0 : m = 0
      · have t1 : ((m : Int) == 0) = true := by simp [h0]
        have Hz := Lib.hid h0
        clear h0
        go_wp2_with fail
        refine (one_any s a hs (by omega) _).mono ?_
        rw [Hv.out, Hd.out, Hp.out, Hm.out]
        rintro e w' ⟨rfl, rfl⟩
        go_wp2
        go_ret
        exact ⟨ret_int (by rw [← He.out, Hstop.out (by rw [Hm.out]; exact Hz.out)]), rfl⟩
      · have t1 : ((m : Int) == 0) = false := by simp [h0]
        have hm1 : 1 ≤ m := by omega
        have hm2 : a + m ≤ s.size := by omega
        go_wp2_with fail
        refine (one_any s a hs (by omega) _).mono ?_
        rw [Hv.out, Hd.out, Hp.out, Hm.out]
        rintro e w' ⟨rfl, rfl⟩
        go_wp2
        go_round
        case rel => exact ⟨a + m, hm2, by go_num, by rw [← He.out, Hgo.out (by rw [Hm.out]; exact h0), Hm.out]⟩
        case measure => simp [intOf]; omega
    · go_wp2
      go_ret
      exact ⟨ret_int (by rw [← He.out, Hstop.out (stepN_end s a (by omega))]), rfl⟩
end Go.Proofs.Ytgijjmcjobjoeaa
