import Derived.Test.YtijpbfafkdpolaaDoorS11
import Derived.Deep.DeepCutAuto
import Derived.Deep.CutBlock
namespace Go.Proofs.YtijpbfafkdpolaaDoor
open Go.RowKit Go.Shelf

theorem ahead_le (y : Int) (h : 0 ≤ y) : aheadF y ≤ 366 * y := by
  obtain ⟨n, rfl⟩ : ∃ n : Nat, y = n := ⟨y.toNat, by omega⟩
  clear h
  induction n with
  | zero => decide
  | succ n ih =>
    have := ahead_len n (by omega)
    rw [show ((n + 1 : Nat) : Int) = (n : Int) + 1 by omega]
    omega
theorem strOfNums_app (xs ys : List Int) : strOfNums (xs ++ ys) = strOfNums xs ++ strOfNums ys := by
  apply bytes_ext
  simp [strOfNums]
theorem stamp_text (y m d r : Int) : strOfNums (stampL y m d r) = strOfNums (fourL y) ++ ⟨#[45]⟩ ++ strOfNums (twoL m) ++ ⟨#[45]⟩ ++ strOfNums (twoL d) ++ ⟨#[84]⟩ ++ strOfNums (twoL (r / 3600)) ++ ⟨#[58]⟩ ++ strOfNums (twoL (r / 60 % 60)) ++ ⟨#[58]⟩ ++ strOfNums (twoL (r % 60)) ++ ⟨#[90]⟩ := by
  unfold stampL
  simp only [strOfNums_app, ← ByteArray.append_assoc]
  rfl
theorem two_at (x : Int) (S : ByteArray) (hS : strOfNums (twoL x) = S) (h0 : 0 ≤ x) (h1 : x ≤ 99) (w : World) : Calls Tryd.prog 31 #[.int .i64 x] w fun e w' => e = .returned (.string S) ∧ Below w.heap.size w w' := by
  subst hS; exact two_any x h0 h1 w
theorem four_at (x : Int) (S : ByteArray) (hS : strOfNums (fourL x) = S) (h0 : 0 ≤ x) (h1 : x ≤ 9999) (w : World) : Calls Tryd.prog 30 #[.int .i64 x] w fun e w' => e = .returned (.string S) ∧ Below w.heap.size w w' := by
  subst hS; exact four_any x h0 h1 w
theorem dig2_at (x : Int) (S : ByteArray) (hS : strOfNums (twoL x) = S) (h0 : 0 ≤ x) (h1 : x ≤ 99) (w : World) : Calls Tryd.prog 32 #[.int .i64 x, .int .i64 2] w fun e w' => e = .returned (.string S) ∧ Below w.heap.size w w' := by
  subst hS; exact digits_any x 2 h0 (by omega) (by decide) w
theorem dig4_at (x : Int) (S : ByteArray) (hS : strOfNums (fourL x) = S) (h0 : 0 ≤ x) (h1 : x ≤ 9999) (w : World) : Calls Tryd.prog 32 #[.int .i64 x, .int .i64 4] w fun e w' => e = .returned (.string S) ∧ Below w.heap.size w w' := by
  subst hS; rw [← digs_four]; exact digits_any x 4 h0 (by omega) (by decide) w
theorem two_sz (x : Int) : (strOfNums (twoL x)).size = 2 := by rw [strOfNums_size]; rfl
theorem four_sz (x : Int) : (strOfNums (fourL x)).size = 4 := by rw [strOfNums_size]; rfl
theorem days_at (y m d v : Int) (b : Bool) (hv : dayV y m d = v) (hb : okD y m d = b) (w : World) : Calls Tryd.prog 14 #[.int .i64 y, .int .i64 m, .int .i64 d] w fun e w' => e = .returned (.tuple #[.int .i64 v, .bool b]) ∧ w = w' := by
  subst hv; subst hb; exact days_any y m d w
/-- the day and the seconds, as the program has them -/
theorem quo_pos {n : Int} (h : 0 ≤ n) : n.tdiv 86400 = n / 86400 ∧ n.tmod 86400 = n % 86400 := ⟨Int.tdiv_eq_ediv_of_nonneg h, Int.tmod_eq_emod_of_nonneg h⟩
theorem quo_neg {n : Int} (h : n < 0) : (n % 86400 = 0 → n.tdiv 86400 = n / 86400 ∧ n.tmod 86400 = 0) ∧ (n % 86400 ≠ 0 → n.tdiv 86400 = n / 86400 + 1 ∧ n.tmod 86400 = n % 86400 - 86400) := by
  obtain ⟨m, rfl⟩ : ∃ m : Int, n = -m := ⟨-n, by omega⟩
  rw [Int.neg_tdiv, Int.neg_tmod, Int.tdiv_eq_ediv_of_nonneg (show 0 ≤ m by omega), Int.tmod_eq_emod_of_nonneg (show 0 ≤ m by omega)]
  omega
theorem quo_any (n : Int) (h : -62167219200 ≤ n) (h' : n ≤ 253402300799) : ∃ q r : Int, n.tdiv 86400 = q ∧ n.tmod 86400 = r ∧ -719528 ≤ q ∧ q ≤ 2932897 ∧ -86400 < r ∧ r < 86400 ∧ Hid ((0 ≤ r → q = n / 86400 ∧ r = n % 86400) ∧ (r < 0 → q = n / 86400 + 1 ∧ r = n % 86400 - 86400)) := by
  refine ⟨_, _, rfl, rfl, ?_⟩
  rcases (by omega : 0 ≤ n ∨ n < 0) with h0 | h0
  · obtain ⟨e1, e2⟩ := quo_pos h0
    rw [e1, e2]
    exact ⟨by omega, by omega, by omega, by omega, Lib.hid ⟨fun _ => ⟨rfl, rfl⟩, fun _ => by omega⟩⟩
  · obtain ⟨e1, e2⟩ := quo_neg h0
    rcases (by omega : n % 86400 = 0 ∨ n % 86400 ≠ 0) with hz | hz
    · obtain ⟨f1, f2⟩ := e1 hz
      rw [f1, f2]
      exact ⟨by omega, by omega, by omega, by omega, Lib.hid ⟨fun _ => by omega, fun _ => by omega⟩⟩
    · obtain ⟨f1, f2⟩ := e2 hz
      rw [f1, f2]
      exact ⟨by omega, by omega, by omega, by omega, Lib.hid ⟨fun _ => by omega, fun _ => by omega⟩⟩
def MakePost (n : Int) (w : World) (e : Ending) (w' : World) : Prop := ∃ v, IsMk n v ∧ e = .returned (.string v) ∧ Below w.heap.size w w'
theorem make_end {n y m d : Int} (hn : inMk n = true) (hy : 0 ≤ y ∧ y ≤ 9999) (hm : 1 ≤ m ∧ m ≤ 12) (hd : 0 ≤ d ∧ d < longF y m) (ht : n / 86400 + 719528 - aheadF y - cumN y (m - 1).toNat = d) : IsMk n (strOfNums (stampL y m (d + 1) (n % 86400))) := by
  refine .inr ⟨hn, y, m, d + 1, (okD_iff _ _ _).2 ⟨hy.1, hy.2, hm.1, hm.2, by omega, by omega⟩, ?_, rfl⟩
  unfold daysF
  omega
theorem make_no {n : Int} {w w' : World} (h : inMk n = false) (hb : Below w.heap.size w w') : MakePost n w (.returned (.string ⟨#[]⟩)) w' := ⟨_, .inl ⟨h, rfl⟩, rfl, hb⟩

set_option maxRecDepth 100000 in
set_option maxHeartbeats 4000000 in
theorem make_any (n : Int) (hn : -9223372036854775808 ≤ n ∧ n ≤ 9223372036854775807) (w : World) : Calls Tryd.prog 16 #[.int .i64 n] w (MakePost n w) := by
  have HF := Lib.hid (days_at 0 1 1 (-719528) true (by decide +kernel) (by decide +kernel))
  have HL := Lib.hid (days_at 9999 12 31 2932896 true (by decide +kernel) (by decide +kernel))
  obtain ⟨hn0, hn1⟩ := hn
  rcases (by omega : n < -62167219200 ∨ 253402300799 < n ∨ (-62167219200 ≤ n ∧ n ≤ 253402300799)) with h | h | ⟨h, h'⟩
  · have Hr : Hid (inMk n = false) := Lib.hid (by unfold inMk; exact decide_eq_false (by omega))
    go_enter Tryd.func16, Tryd.ntmps16
    go_wp2_with fail
    refine (HF.out _).mono ?_
    rintro e w1 ⟨rfl, rfl⟩
    go_wp2_with fail
    refine (HL.out _).mono ?_
    rintro e w1 ⟨rfl, rfl⟩
    go_wp2_with fail
    go_ret
    exact make_no Hr.out (Below.refl _ _)
  · have Hr : Hid (inMk n = false) := Lib.hid (by unfold inMk; exact decide_eq_false (by omega))
    go_enter Tryd.func16, Tryd.ntmps16
    go_wp2_with fail
    refine (HF.out _).mono ?_
    rintro e w1 ⟨rfl, rfl⟩
    go_wp2_with fail
    refine (HL.out _).mono ?_
    rintro e w1 ⟨rfl, rfl⟩
    go_wp2_with fail
    go_ret
    exact make_no Hr.out (Below.refl _ _)
  · have Hr := Lib.hid ((inMk_iff n).2 ⟨h, h'⟩)
    obtain ⟨q, r0, hq, hr0, q0, q1, r1, r2, HQ⟩ := quo_any n h h'
    go_enter Tryd.func16, Tryd.ntmps16
    go_wp2_with fail
    refine (HF.out _).mono ?_
    rintro e w1 ⟨rfl, rfl⟩
    go_wp2_with fail
    refine (HL.out _).mono ?_
    rintro e w1 ⟨rfl, rfl⟩
    go_upto_if 37 with (fail)
    clear hq hr0
    go_cut [7, 8] (fun t7 t8 wx => t7 = .int .i64 (n / 86400 + 719528) ∧ t8 = .int .i64 (n % 86400) ∧ w = wx)
    case first =>
      by_cases hneg : r0 < 0
      · go_wp2_with fail
        go_meet
        have := HQ.out.2 hneg
        exact ⟨by congr 1; omega, by congr 1; omega, rfl⟩
      · go_wp2_with fail
        go_meet
        have := HQ.out.1 (by omega)
        exact ⟨by congr 1; omega, by congr 1; omega, rfl⟩
    case rest =>
      obtain ⟨rfl, rfl, rfl⟩ := hcut
      clear HQ q0 q1 r1 r2
      obtain ⟨t, ht⟩ : ∃ t, n / 86400 + 719528 = t := ⟨_, rfl⟩
      obtain ⟨r, hr⟩ : ∃ t, n % 86400 = t := ⟨_, rfl⟩
      have t0 : 0 ≤ t := by omega
      have t1 : t ≤ 3652424 := by omega
      have r0 : 0 ≤ r := by omega
      have r1 : r ≤ 86399 := by omega
      have Ht := Lib.hid ht
      have Hrr := Lib.hid hr
      rw [ht, hr]
      clear ht hr
      go_wp2_with fail
      go_loopw [9] (fun t9 wr => ∃ y : Int, 0 ≤ y ∧ y ≤ 9999 ∧ t9 = .int .i64 y ∧ Hid (aheadF y ≤ t) ∧ w = wr) (fun t9 _ => (9999 - intOf t9).toNat)
      case atStart => exact ⟨t / 366, by omega, by omega, by go_num, Lib.hid (by have := ahead_le (t / 366) (by omega); omega), rfl⟩
      case round =>
        obtain ⟨y, y0, y1, rfl, Hy, rfl⟩ := hrel
        obtain ⟨a, ha⟩ : ∃ a, aheadF (y + 1) = a := ⟨_, rfl⟩
        have HA := Lib.hid (ahead_at (y + 1) a ha (by omega) (by omega))
        have Ha := Lib.hid ha
        clear ha
        by_cases hc : a ≤ t
        · have Hy2 : Hid (aheadF (y + 1) ≤ t) := Lib.hid (by rw [Ha.out]; exact hc)
          have Hyn : Hid (y + 1 ≤ 9999) := Lib.hid (by
            rcases (by omega : y + 1 ≤ 9999 ∨ y = 9999) with g | g
            · exact g
            · have := Ha.out
              subst g
              have e2 : aheadF (9999 + 1) = 3652425 := by decide
              omega)
          go_wp2_with fail
          refine (HA.out _).mono ?_
          rintro e w1 ⟨rfl, rfl⟩
          go_wp2_with fail
          go_roundw
          case rel => exact ⟨y + 1, by omega, Hyn.out, by go_num, Hy2, trivial⟩
          case measure => have := Hyn.out; simp [intOf]; omega
        · go_wp2_with fail
          refine (HA.out _).mono ?_
          rintro e w1 ⟨rfl, rfl⟩
          have Hhi : Hid (t < aheadF (y + 1)) := Lib.hid (by rw [Ha.out]; omega)
          clear HA Ha
          obtain ⟨a0, ha0⟩ : ∃ a, aheadF y = a := ⟨_, rfl⟩
          have HA0 := Lib.hid (ahead_at y a0 ha0 y0 (by omega))
          have hab := ahead_bd y y0 (by omega)
          rw [ha0] at hab
          have hle := Hy.out
          rw [ha0] at hle
          obtain ⟨hab0, hab1⟩ := hab
          have Ha0 := Lib.hid ha0
          clear ha0
          go_wp2_with fail
          refine (HA0.out _).mono ?_
          rintro e w1 ⟨rfl, rfl⟩
          go_wp2_with fail
          go_loopw [7, 10] (fun t7 t10 wr => ∃ m d : Int, 1 ≤ m ∧ m ≤ 12 ∧ t10 = .int .i64 m ∧ t7 = .int .i64 d ∧ 0 ≤ d ∧ d ≤ 366 ∧ Hid (t - aheadF y - cumN y (m - 1).toNat = d) ∧ w = wr) (fun _ t10 _ => (12 - intOf t10).toNat)
          case atStart =>
            have e1 := ahead_len y y0
            have e2 := Hhi.out
            have e3 := Ha0.out
            refine ⟨1, t - a0, by omega, by omega, by go_num, by go_num, by omega, by omega, Lib.hid ?_, rfl⟩
            have : cumN y ((1 : Int) - 1).toNat = 0 := rfl
            omega
          case round =>
            clear hab0 hab1 hle
            obtain ⟨m, d, m0, m1, rfl, rfl, d0, d1, Hd, rfl⟩ := hrel
            obtain ⟨L, hL⟩ : ∃ L, longF y m = L := ⟨_, rfl⟩
            have hLb := longF_bd y m
            rw [hL] at hLb
            obtain ⟨l0, l1⟩ := hLb
            have HM := Lib.hid (month_at y m L hL y0 (by omega) m0 m1)
            have HL2 := Lib.hid hL
            clear hL
            by_cases hc : L ≤ d
            · have Hcs := Lib.hid (cum_step y m m0)
              have Hm2 : Hid (m + 1 ≤ 12) := Lib.hid (by
                rcases (by omega : m + 1 ≤ 12 ∨ m = 12) with g | g
                · exact g
                · have e1 := Hcs.out
                  have e2 := Hd.out
                  have e3 := cum_year y
                  have e4 := ahead_step y y0
                  have e5 := Hhi.out
                  have e6 := HL2.out
                  subst g
                  have e7 : cumN y ((12 : Int) + 1 - 1).toNat = cumN y 12 := rfl
                  omega)
              have Hd2 : Hid (t - aheadF y - cumN y (m + 1 - 1).toNat = d - L) := Lib.hid (by
                have e1 := Hcs.out
                have e2 := Hd.out
                have e6 := HL2.out
                omega)
              go_wp2_with fail
              refine (HM.out _).mono ?_
              rintro e w1 ⟨rfl, rfl⟩
              go_wp2_with fail
              refine (HM.out _).mono ?_
              rintro e w1 ⟨rfl, rfl⟩
              go_wp2_with fail
              go_roundw
              case rel => exact ⟨m + 1, d - L, by omega, Hm2.out, by go_num, by go_num, by omega, by omega, Hd2, trivial⟩
              case measure => have := Hm2.out; simp [intOf]; omega
            · have hlt : d < L := by omega
              have HE := Lib.hid (make_end (n := n) (y := y) (m := m) (d := d) Hr.out ⟨y0, y1⟩ ⟨m0, m1⟩ ⟨d0, by rw [HL2.out]; exact hlt⟩ (by rw [Ht.out]; exact Hd.out))
              rw [Hrr.out, stamp_text] at HE
              obtain ⟨S1, h1⟩ : ∃ S, strOfNums (fourL y) = S := ⟨_, rfl⟩
              obtain ⟨S2, h2⟩ : ∃ S, strOfNums (twoL m) = S := ⟨_, rfl⟩
              obtain ⟨S3, h3⟩ : ∃ S, strOfNums (twoL (d + 1)) = S := ⟨_, rfl⟩
              obtain ⟨S4, h4⟩ : ∃ S, strOfNums (twoL (r / 3600)) = S := ⟨_, rfl⟩
              obtain ⟨S5, h5⟩ : ∃ S, strOfNums (twoL (r / 60 % 60)) = S := ⟨_, rfl⟩
              obtain ⟨S6, h6⟩ : ∃ S, strOfNums (twoL (r % 60)) = S := ⟨_, rfl⟩
              have z1 : S1.size = 4 := by rw [← h1]; exact four_sz _
              have z2 : S2.size = 2 := by rw [← h2]; exact two_sz _
              have z3 : S3.size = 2 := by rw [← h3]; exact two_sz _
              have z4 : S4.size = 2 := by rw [← h4]; exact two_sz _
              have z5 : S5.size = 2 := by rw [← h5]; exact two_sz _
              have z6 : S6.size = 2 := by rw [← h6]; exact two_sz _
              have C1 := Lib.hid (four_at y S1 h1 y0 y1)
              have C2 := Lib.hid (two_at m S2 h2 (by omega) (by omega))
              have C3 := Lib.hid (two_at (d + 1) S3 h3 (by omega) (by omega))
              have C4 := Lib.hid (two_at (r / 3600) S4 h4 (by omega) (by omega))
              have C5 := Lib.hid (two_at (r / 60 % 60) S5 h5 (by omega) (by omega))
              have C6 := Lib.hid (two_at (r % 60) S6 h6 (by omega) (by omega))
              rw [h1, h2, h3, h4, h5, h6] at HE
              clear h1 h2 h3 h4 h5 h6 Hd hc Ht Hrr
              go_wp2_with fail
              refine (HM.out _).mono ?_
              rintro e w1 ⟨rfl, rfl⟩
              go_wp2_with fail
              refine (C1.out _).mono ?_
              rintro e w1 ⟨rfl, hb1⟩
              have B1 := Lib.hid hb1
              have g1 := hb1.size
              clear hb1
              go_wp2_with fail
              refine (C2.out _).mono ?_
              rintro e w2 ⟨rfl, hb1⟩
              have B2 := Lib.hid (B1.out.trans (hb1.mono g1))
              have g2 := Nat.le_trans g1 hb1.size
              clear hb1 B1 g1
              go_wp2_with fail
              refine (C3.out _).mono ?_
              rintro e w3 ⟨rfl, hb1⟩
              have B3 := Lib.hid (B2.out.trans (hb1.mono g2))
              have g3 := Nat.le_trans g2 hb1.size
              clear hb1 B2 g2
              go_wp2_with fail
              refine (C4.out _).mono ?_
              rintro e w4 ⟨rfl, hb1⟩
              have B4 := Lib.hid (B3.out.trans (hb1.mono g3))
              have g4 := Nat.le_trans g3 hb1.size
              clear hb1 B3 g3
              go_wp2_with fail
              refine (C5.out _).mono ?_
              rintro e w5 ⟨rfl, hb1⟩
              have B5 := Lib.hid (B4.out.trans (hb1.mono g4))
              have g5 := Nat.le_trans g4 hb1.size
              clear hb1 B4 g4
              go_wp2_with fail
              refine (C6.out _).mono ?_
              rintro e w6 ⟨rfl, hb1⟩
              have B6 := Lib.hid (B5.out.trans (hb1.mono g5))
              clear hb1 B5 g5
              go_wp2_with fail
              go_ret
              exact ⟨_, HE.out, rfl, B6.out⟩
end Go.Proofs.YtijpbfafkdpolaaDoor
