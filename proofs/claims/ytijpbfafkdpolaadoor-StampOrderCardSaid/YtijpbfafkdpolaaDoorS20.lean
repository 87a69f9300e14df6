import Derived.Test.YtijpbfafkdpolaaDoorP5
import Derived.Test.YtijpbfafkdpolaaDoorS18
namespace Go.Proofs.YtijpbfafkdpolaaDoor
open Go.RowKit Go.Shelf

theorem less_of {s t : ByteArray} {c : Int} (h : Lib.compareBytes s.data.toList t.data.toList = c) : Op.bytesLess s.toList t.toList = decide (c < 0) := by
  rw [ByteArray.toList_eq, ByteArray.toList_eq]
  rcases cmp_less s.data.toList t.data.toList with ⟨h1, h2⟩ | ⟨h1, _, h2⟩ | ⟨h1, h2, _⟩
  · rw [h2, ← h, h1]; rfl
  · rw [h2, ← h, h1]; rfl
  · rw [h2, ← h, h1]; rfl
theorem full_of {s : ByteArray} (h : s.size = 20) : s.toList.isEmpty = false := by
  rw [ByteArray.toList_eq]
  cases hc : s.data.toList with
  | nil =>
    have : s.data.toList.length = 20 := by simpa using h
    rw [hc] at this
    cases this
  | cons x l => rfl

set_option maxRecDepth 100000 in
set_option maxHeartbeats 4000000 in
theorem stampOrder_walk (a b : Int) (w : World) (ha : (-9223372036854775808 : Int) ≤ a ∧ a ≤ 9223372036854775807) (hb : (-9223372036854775808 : Int) ≤ b ∧ b ≤ 9223372036854775807) : Calls Tryd.prog 7 #[.int .i64 a, .int .i64 b] w fun e w' => e = .returned (.bool true) ∧ Below w.heap.size w w' := by
  obtain ⟨s, hs⟩ := mk_some a
  obtain ⟨t, ht⟩ := mk_some b
  have HA := Lib.hid (make_at a s hs ha)
  have HB := Lib.hid (make_at b t ht hb)
  have HE := Lib.hid fun h1 h2 => mk_order hs ht h1 h2
  have k1 := mk_secs hs
  have k2 := mk_secs ht
  clear hs ht ha hb
  rcases k1 with ⟨_, he⟩ | ⟨i1, o1, v1, z1⟩
  · clear k2 HE
    have f1 : s.toList.isEmpty = true := by rw [he, ByteArray.toList_eq]; rfl
    clear he
    go_enter Tryd.func7, Tryd.ntmps7
    go_wp2_with fail
    refine (HA.out _).mono ?_
    rintro e w1 ⟨rfl, hb1⟩
    have B1 := Lib.hid hb1
    have g1 := hb1.size
    clear hb1
    go_wp2_with fail
    refine (HB.out _).mono ?_
    rintro e w2 ⟨rfl, hb1⟩
    have B2 := Lib.hid (B1.out.trans (hb1.mono g1))
    have g2 := Nat.le_trans g1 hb1.size
    clear hb1
    go_wp2_with fail
    refine (awake_any _).mono ?_
    rintro e w3 ⟨rfl, hb1⟩
    have B3 := Lib.hid (B2.out.trans (hb1.mono g2))
    have g3 := Nat.le_trans g2 hb1.size
    clear hb1
    go_wp2_with fail
    refine (awake_any _).mono ?_
    rintro e w4 ⟨rfl, hb1⟩
    have B4 := Lib.hid (B3.out.trans (hb1.mono g3))
    clear hb1
    go_wp2_with fail
    go_ret
    exact ⟨rfl, B4.out⟩
  · have f1 := full_of z1
    rcases k2 with ⟨_, he⟩ | ⟨i2, o2, v2, z2⟩
    · clear HE i1 o1 v1
      have f2 : t.toList.isEmpty = true := by rw [he, ByteArray.toList_eq]; rfl
      clear he
      go_enter Tryd.func7, Tryd.ntmps7
      go_wp2_with fail
      refine (HA.out _).mono ?_
      rintro e w1 ⟨rfl, hb1⟩
      have B1 := Lib.hid hb1
      have g1 := hb1.size
      clear hb1
      go_wp2_with fail
      refine (HB.out _).mono ?_
      rintro e w2 ⟨rfl, hb1⟩
      have B2 := Lib.hid (B1.out.trans (hb1.mono g1))
      have g2 := Nat.le_trans g1 hb1.size
      clear hb1
      go_wp2_with fail
      refine (awake_any _).mono ?_
      rintro e w3 ⟨rfl, hb1⟩
      have B3 := Lib.hid (B2.out.trans (hb1.mono g2))
      have g3 := Nat.le_trans g2 hb1.size
      clear hb1
      go_wp2_with fail
      refine (awake_any _).mono ?_
      rintro e w4 ⟨rfl, hb1⟩
      have B4 := Lib.hid (B3.out.trans (hb1.mono g3))
      clear hb1
      go_wp2_with fail
      go_ret
      exact ⟨rfl, B4.out⟩
    · have f2 := full_of z2
      obtain ⟨c1, c2⟩ := HE.out i1 i2
      have e1 := less_of c1
      have HS := Lib.hid (secs_at s a true v1 o1 (by omega))
      have HC := Lib.hid (comp_at s t (sgn a b) c2 (by omega) (by omega))
      clear c1 c2 HE i1 i2 v1 v2 o1 o2 z1 z2
      rcases (by omega : a < b ∨ b < a ∨ a = b) with h | h | h
      · rw [sgn_lt h] at HC e1
        have b1 : (a == b) = false := beq_eq_false_iff_ne.2 (by omega)
        have e2 : Op.bytesLess s.toList t.toList = true := e1
        clear e1
        go_enter Tryd.func7, Tryd.ntmps7
        go_wp2_with fail
        refine (HA.out _).mono ?_
        rintro e w1 ⟨rfl, hb1⟩
        have B1 := Lib.hid hb1
        have g1 := hb1.size
        clear hb1
        go_wp2_with fail
        refine (HB.out _).mono ?_
        rintro e w2 ⟨rfl, hb1⟩
        have B2 := Lib.hid (B1.out.trans (hb1.mono g1))
        have g2 := Nat.le_trans g1 hb1.size
        clear hb1
        go_wp2_with fail
        refine (awake_any _).mono ?_
        rintro e w3 ⟨rfl, hb1⟩
        have B3 := Lib.hid (B2.out.trans (hb1.mono g2))
        have g3 := Nat.le_trans g2 hb1.size
        clear hb1
        go_wp2_with fail
        refine (HS.out _).mono ?_
        rintro e w4 ⟨rfl, hb1⟩
        have B4 := Lib.hid (B3.out.trans (hb1.mono g3))
        have g4 := Nat.le_trans g3 hb1.size
        clear hb1
        go_wp2_with fail
        refine (HC.out _).mono ?_
        rintro e w5 ⟨rfl, hb1⟩
        have B5 := Lib.hid (B4.out.trans (hb1.mono g4))
        clear hb1
        go_wp2_with fail
        go_ret
        exact ⟨ret_bool' (by simp), B5.out⟩
      · rw [sgn_gt h] at HC e1
        have b1 : (a == b) = false := beq_eq_false_iff_ne.2 (by omega)
        have e2 : Op.bytesLess s.toList t.toList = false := e1
        have d1 : decide (a < b) = false := decide_eq_false (by omega)
        clear e1
        go_enter Tryd.func7, Tryd.ntmps7
        go_wp2_with fail
        refine (HA.out _).mono ?_
        rintro e w1 ⟨rfl, hb1⟩
        have B1 := Lib.hid hb1
        have g1 := hb1.size
        clear hb1
        go_wp2_with fail
        refine (HB.out _).mono ?_
        rintro e w2 ⟨rfl, hb1⟩
        have B2 := Lib.hid (B1.out.trans (hb1.mono g1))
        have g2 := Nat.le_trans g1 hb1.size
        clear hb1
        go_wp2_with fail
        refine (awake_any _).mono ?_
        rintro e w3 ⟨rfl, hb1⟩
        have B3 := Lib.hid (B2.out.trans (hb1.mono g2))
        have g3 := Nat.le_trans g2 hb1.size
        clear hb1
        go_wp2_with fail
        refine (HS.out _).mono ?_
        rintro e w4 ⟨rfl, hb1⟩
        have B4 := Lib.hid (B3.out.trans (hb1.mono g3))
        have g4 := Nat.le_trans g3 hb1.size
        clear hb1
        go_wp2_with fail
        refine (HC.out _).mono ?_
        rintro e w5 ⟨rfl, hb1⟩
        have B5 := Lib.hid (B4.out.trans (hb1.mono g4))
        clear hb1
        go_wp2_with fail
        go_ret
        exact ⟨ret_bool' (by simp), B5.out⟩
      · obtain rfl : a = b := h
        rw [sgn_self] at HC e1
        have e2 : Op.bytesLess s.toList t.toList = false := e1
        clear e1
        go_enter Tryd.func7, Tryd.ntmps7
        go_wp2_with fail
        refine (HA.out _).mono ?_
        rintro e w1 ⟨rfl, hb1⟩
        have B1 := Lib.hid hb1
        have g1 := hb1.size
        clear hb1
        go_wp2_with fail
        refine (HB.out _).mono ?_
        rintro e w2 ⟨rfl, hb1⟩
        have B2 := Lib.hid (B1.out.trans (hb1.mono g1))
        have g2 := Nat.le_trans g1 hb1.size
        clear hb1
        go_wp2_with fail
        refine (awake_any _).mono ?_
        rintro e w3 ⟨rfl, hb1⟩
        have B3 := Lib.hid (B2.out.trans (hb1.mono g2))
        have g3 := Nat.le_trans g2 hb1.size
        clear hb1
        go_wp2_with fail
        refine (HS.out _).mono ?_
        rintro e w4 ⟨rfl, hb1⟩
        have B4 := Lib.hid (B3.out.trans (hb1.mono g3))
        have g4 := Nat.le_trans g3 hb1.size
        clear hb1
        go_wp2_with fail
        refine (HC.out _).mono ?_
        rintro e w5 ⟨rfl, hb1⟩
        have B5 := Lib.hid (B4.out.trans (hb1.mono g4))
        clear hb1
        go_wp2_with fail
        go_ret
        exact ⟨ret_bool' (by simp), B5.out⟩
end Go.Proofs.YtijpbfafkdpolaaDoor
