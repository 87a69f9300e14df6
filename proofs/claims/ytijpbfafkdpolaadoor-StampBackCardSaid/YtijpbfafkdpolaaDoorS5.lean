import Derived.Test.YtijpbfafkdpolaaDoorS4
namespace Go.Proofs.YtijpbfafkdpolaaDoor
open Go.RowKit Go.Shelf

/-! ### what a stamp is, as the reference has it -/
def byteF (s : ByteArray) (i : Nat) : Int := (nums s).getD i 0
theorem byteF_at (s : ByteArray) (i : Nat) (h : i < s.size) : byteF s i = ((s[i]'h).toNat : Int) := by
  unfold byteF
  have hl : i < (nums s).length := by rw [nums_len]; exact h
  rw [← nums_at s i h]
  simp [List.getD, List.getElem?_eq_getElem hl]
/-- the signs between the numbers are wrong -/
def sepX (s : ByteArray) : Bool := byteF s 4 != 45 || byteF s 7 != 45 || byteF s 10 != 84 || byteF s 13 != 58 || byteF s 16 != 58 || byteF s (s.size - 1) != 90
/-- what stands behind the seconds is wrong -/
def fracX (s : ByteArray) : Bool := decide (20 < s.size) && (byteF s 19 != 46 || decide (s.size < 22) || decide (30 < s.size) || decide (numF s 20 (s.size - 21) < 0) || byteF s (s.size - 2) == 48)
def hF (s : ByteArray) : Int := numF s 11 2
def miF (s : ByteArray) : Int := numF s 14 2
def seF (s : ByteArray) : Int := numF s 17 2
def clockX (s : ByteArray) : Bool := decide (hF s < 0) || decide (23 < hF s) || decide (miF s < 0) || decide (59 < miF s) || decide (seF s < 0) || decide (59 < seF s)
def secOK (s : ByteArray) : Bool := decide (20 ≤ s.size) && (!sepX s && (okD (numF s 0 4) (numF s 5 2) (numF s 8 2) && (!clockX s && !fracX s)))
def secV (s : ByteArray) : Int := if secOK s = true then dayV (numF s 0 4) (numF s 5 2) (numF s 8 2) * 86400 + hF s * 3600 + miF s * 60 + seF s else 0
theorem sec_not {s : ByteArray} (h : secOK s = false) : (0 : Int) = secV s ∧ false = secOK s := by unfold secV; rw [h]; simp

set_option maxHeartbeats 2000000 in
theorem rsec_bad (s : ByteArray) (hs : s.size ≤ 140737488355328) (hbad : 20 ≤ s.size → ¬ sepX s = false) (w : World) : Calls Tryd.prog 11 #[.string s] w fun e w' => e = .returned (.tuple #[.int .i64 (secV s), .bool (secOK s)]) ∧ w = w' := by
  by_cases hz : s.size < 20
  · have Hr : Hid (secOK s = false) := Lib.hid (by unfold secOK; rw [decide_eq_false (by omega)]; rfl)
    go_enter Tryd.func11, Tryd.ntmps11
    go_wp2
    go_ret2
    obtain ⟨e1, e2⟩ := sec_not Hr.out
    exact ⟨ret_day e1 e2, rfl⟩
  · have hsx := hbad (by omega)
    have e4 := byteF_at s 4 (by omega)
    have e7 := byteF_at s 7 (by omega)
    have e10 := byteF_at s 10 (by omega)
    have e13 := byteF_at s 13 (by omega)
    have e16 := byteF_at s 16 (by omega)
    have ez := byteF_at s (s.size - 1) (by omega)
    have hX : sepX s = sepX s := rfl
    conv at hX => rhs; unfold sepX; rw [e4, e7, e10, e13, e16, ez]
    have HX := Lib.hid hX
    clear hX e4 e7 e10 e13 e16 ez
    have hi4 : 4 < s.size := by omega
    have hi7 : 7 < s.size := by omega
    have hi10 : 10 < s.size := by omega
    have hi13 : 13 < s.size := by omega
    have hi16 : 16 < s.size := by omega
    have hiz : s.size - 1 < s.size := by omega
    by_cases hall : ((s[4]'hi4).toNat : Int) = 45 ∧ ((s[7]'hi7).toNat : Int) = 45 ∧ ((s[10]'hi10).toNat : Int) = 84 ∧ ((s[13]'hi13).toNat : Int) = 58 ∧ ((s[16]'hi16).toNat : Int) = 58 ∧ ((s[s.size - 1]'hiz).toNat : Int) = 90
    · exact absurd (by rw [HX.out, hall.1, hall.2.1, hall.2.2.1, hall.2.2.2.1, hall.2.2.2.2.1, hall.2.2.2.2.2]; rfl) hsx
    · have Hr : Hid (secOK s = false) := Lib.hid (by
        have hx : sepX s = true := by
          rw [HX.out]
          simp only [Bool.or_eq_true, bne_iff_ne]
          omega
        unfold secOK; rw [hx]; simp)
      clear HX
      rcases (by omega : ((s[4]'hi4).toNat : Int) ≠ 45 ∨ (((s[4]'hi4).toNat : Int) = 45 ∧ ((s[7]'hi7).toNat : Int) ≠ 45) ∨ (((s[4]'hi4).toNat : Int) = 45 ∧ ((s[7]'hi7).toNat : Int) = 45 ∧ ((s[10]'hi10).toNat : Int) ≠ 84) ∨ (((s[4]'hi4).toNat : Int) = 45 ∧ ((s[7]'hi7).toNat : Int) = 45 ∧ ((s[10]'hi10).toNat : Int) = 84 ∧ ((s[13]'hi13).toNat : Int) ≠ 58) ∨ (((s[4]'hi4).toNat : Int) = 45 ∧ ((s[7]'hi7).toNat : Int) = 45 ∧ ((s[10]'hi10).toNat : Int) = 84 ∧ ((s[13]'hi13).toNat : Int) = 58 ∧ ((s[16]'hi16).toNat : Int) ≠ 58) ∨ (((s[4]'hi4).toNat : Int) = 45 ∧ ((s[7]'hi7).toNat : Int) = 45 ∧ ((s[10]'hi10).toNat : Int) = 84 ∧ ((s[13]'hi13).toNat : Int) = 58 ∧ ((s[16]'hi16).toNat : Int) = 58 ∧ ((s[s.size - 1]'hiz).toNat : Int) ≠ 90)) with c4 | ⟨c4, c7⟩ | ⟨c4, c7, c10⟩ | ⟨c4, c7, c10, c13⟩ | ⟨c4, c7, c10, c13, c16⟩ | ⟨c4, c7, c10, c13, c16, cz⟩
      case inr.inr.inr.inr.inr =>
        clear hall hsx hbad
        have bz : (((s[s.size - 1]'hiz).toNat : Int) != 90) = true := bne_iff_ne.2 cz
        go_enter Tryd.func11, Tryd.ntmps11
        go_wp2
        go_ret2
        obtain ⟨e1, e2⟩ := sec_not Hr.out
        exact ⟨ret_day e1 e2, rfl⟩
      all_goals
        clear hall hsx hbad
        go_enter Tryd.func11, Tryd.ntmps11
        go_wp2
        go_ret2
        obtain ⟨e1, e2⟩ := sec_not Hr.out
        exact ⟨ret_day e1 e2, rfl⟩
end Go.Proofs.YtijpbfafkdpolaaDoor
