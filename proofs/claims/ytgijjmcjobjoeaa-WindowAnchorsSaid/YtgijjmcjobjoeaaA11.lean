import Derived.Test.YtgijjmcjobjoeaaA9
namespace Go.Proofs.Ytgijjmcjobjoeaa
open Go.RowKit

theorem anch_cut (xs : List ByteArray) (off lim : Int) (v : ByteArray) (hv : v.toList.isEmpty = false) (hi : 0 ≤ idxF xs v) (ho : -1099511627776 ≤ off ∧ off ≤ 1099511627776) (hn : (xs.length : Int) ≤ 8796093022208) :
    cutF xs 7 off lim v = cutAt xs (mxF (idxF xs v + off) 0) lim := by
  have hb := idxF_bd xs v
  have e : nearF off = off := by unfold nearF; rw [if_neg (by omega), if_neg (by omega)]
  have hm := mxF_bd (idxF xs v + off) 0
  unfold cutF
  rw [if_neg (by simp [hv]), if_neg (by omega), e]
  congr 1
  unfold mnF
  rw [if_neg (by omega)]
theorem pos_cut (xs : List ByteArray) (p lim : Int) (h : 0 ≤ p ∧ p ≤ 9007199254740991) : cutF xs p 0 lim ⟨#[]⟩ = cutAt xs p lim := by
  have e : nearF p = p := by unfold nearF; rw [if_neg (by omega), if_neg (by omega)]
  unfold cutF
  rw [if_pos emp_empty, e, if_neg (by omega)]

set_option maxHeartbeats 2000000 in
theorem windowAnchors_walk (A : Option Addr) (n ca : Nat) (xs : List ByteArray) (at_ off lim : Int) (w : World) (hx : Rd w w.heap.size A (xs.map Value.string))
    (hn : xs.length = n) (hcap : n ≤ ca) (hre : ca * 16 ≤ 140737488351232) (h0 : A = none → n = 0) (ba : -9223372036854775808 ≤ at_ ∧ at_ ≤ 9223372036854775807)
    (bo : -9223372036854775808 ≤ off ∧ off ≤ 9223372036854775807) (bl : -9223372036854775808 ≤ lim ∧ lim ≤ 9223372036854775807) :
    Calls Try.prog 6 #[.slice A n ca, .int .i64 at_, .int .i64 off, .int .i64 lim] w fun e w' => e = .returned (.bool true) ∧ Below w.heap.size w w' := by
  have H0 := Lib.hid h0
  have Hn := Lib.hid hn
  have Hx := Lib.hid hx
  clear hx hn h0
  have aw := fun (W : World) => awake_any W
  have Aw := Lib.hid aw
  clear aw
  -- the ways that return at once
  by_cases h1 : at_ < 0
  · go_enter Try.func6, Try.ntmps6
    go_wp2_with fail
    refine (Aw.out _).mono ?_
    rintro e w1 ⟨rfl, hb1⟩
    go_wp2_with fail
    refine (Aw.out _).mono ?_
    rintro e w2 ⟨rfl, hb2⟩
    go_wp2_with fail
    go_ret
    exact ⟨rfl, hb1.trans (hb2.mono hb1.size)⟩
  obtain ⟨at1, rfl⟩ := Int.eq_ofNat_of_zero_le (by omega : 0 ≤ at_)
  by_cases h2 : n ≤ at1
  · go_enter Try.func6, Try.ntmps6
    go_wp2_with fail
    refine (Aw.out _).mono ?_
    rintro e w1 ⟨rfl, hb1⟩
    go_wp2_with fail
    refine (Aw.out _).mono ?_
    rintro e w2 ⟨rfl, hb2⟩
    go_wp2_with fail
    go_ret
    exact ⟨rfl, hb1.trans (hb2.mono hb1.size)⟩
  have lat : at1 < xs.length := by rw [Hn.out]; omega
  obtain ⟨b, o, rfl, hbB, hc⟩ := Hx.out.at_ (by simp; omega)
  have ca0 := hc at1 (.string xs[at1]) (by simp [lat])
  have Hc := Lib.hid hc
  clear hc
  obtain ⟨v, hv⟩ : ∃ v, xs[at1] = v := ⟨_, rfl⟩
  rw [hv] at ca0
  have Hv := Lib.hid hv
  clear hv
  by_cases h3 : v.toList.isEmpty = true
  · go_enter Try.func6, Try.ntmps6
    go_wp2_with fail
    refine (Aw.out _).mono ?_
    rintro e w1 ⟨rfl, hb1⟩
    have c1 := (hb1.cell (p := ⟨b, o + at1, none⟩) hbB).trans ca0
    clear ca0
    go_wp2_with fail
    refine (Aw.out _).mono ?_
    rintro e w2 ⟨rfl, hb2⟩
    go_wp2_with fail
    go_ret
    exact ⟨rfl, hb1.trans (hb2.mono hb1.size)⟩
  have h3 : v.toList.isEmpty = false := by simpa using h3
  by_cases h4 : 1099511627776 < off
  · go_enter Try.func6, Try.ntmps6
    go_wp2_with fail
    refine (Aw.out _).mono ?_
    rintro e w1 ⟨rfl, hb1⟩
    have c1 := (hb1.cell (p := ⟨b, o + at1, none⟩) hbB).trans ca0
    clear ca0
    go_wp2_with fail
    refine (Aw.out _).mono ?_
    rintro e w2 ⟨rfl, hb2⟩
    go_wp2_with fail
    go_ret
    exact ⟨rfl, hb1.trans (hb2.mono hb1.size)⟩
  by_cases h5 : off < -1099511627776
  · go_enter Try.func6, Try.ntmps6
    go_wp2_with fail
    refine (Aw.out _).mono ?_
    rintro e w1 ⟨rfl, hb1⟩
    have c1 := (hb1.cell (p := ⟨b, o + at1, none⟩) hbB).trans ca0
    clear ca0
    go_wp2_with fail
    refine (Aw.out _).mono ?_
    rintro e w2 ⟨rfl, hb2⟩
    go_wp2_with fail
    go_ret
    exact ⟨rfl, hb1.trans (hb2.mono hb1.size)⟩
  -- the place at which the id stands first
  have hhit : idxFrom xs v at1 = (at1 : Int) := idxFrom_hit xs v lat Hv.out
  have hfle : ∀ k, k ≤ at1 → 0 ≤ idxFrom xs v k ∧ idxFrom xs v k ≤ at1 := by
    intro k hk
    have hd : at1 = k + (at1 - k) := by omega
    generalize at1 - k = d at hd
    induction d generalizing k with
    | zero => have : k = at1 := by omega
              subst this; omega
    | succ d ih =>
      have h := ih (k + 1) (by omega) (by omega)
      by_cases e : xs[k]'(by omega) = v
      · rw [idxFrom_hit xs v (by omega) e]; omega
      · rw [idxFrom_miss xs v (by omega) e]; exact h
  have Hhit := Lib.hid hhit
  have hf0 := hfle 0 (by omega)
  rw [idxFrom_zero] at hf0
  have Hfle := Lib.hid hfle
  clear hhit hfle
  have rmx := run_mx
  have hacut := anch_cut xs off lim v h3 hf0.1 (by omega) (by rw [Hn.out]; omega)
  have hmb := mxF_bd (idxF xs v + off) 0
  have hpcut := pos_cut xs (mxF (idxF xs v + off) 0) lim (by omega)
  have hlenc := cutAt_len xs (mxF (idxF xs v + off) 0) lim
  rw [Hn.out] at hlenc
  obtain ⟨l, F, c, hr⟩ : ∃ l F c, cutAt xs (mxF (idxF xs v + off) 0) lim = (l, F, c) := ⟨_, _, _, rfl⟩
  have hc0 : c = 0 := by
    have := congrArg (fun r => r.2.2) hr
    simpa [cutAt] using this.symm
  subst hc0
  rw [hr] at hacut hpcut hlenc
  simp only at hlenc
  have Hacut := Lib.hid hacut
  have Hpcut := Lib.hid hpcut
  clear hacut hpcut hr
  go_enter Try.func6, Try.ntmps6
  go_wp2_with fail
  refine (Aw.out _).mono ?_
  rintro e w1 ⟨rfl, hb1⟩
  have z1 : w.heap.size ≤ w1.heap.size := hb1.size
  have c1 := (hb1.cell (p := ⟨b, o + at1, none⟩) hbB).trans ca0
  have Hx1 := Lib.hid (Hx.out.below hb1)
  have Hc1 : Hid (∀ j u, (xs.map Value.string)[j]? = some u → w1.cell? ⟨b, o + j, none⟩ = some u) := Lib.hid (fun j u hu => (hb1.cell (p := ⟨b, o + j, none⟩) hbB).trans (Hc.out j u hu))
  have HB1 := Lib.hid hb1
  clear ca0 hb1
  go_wp2_with fail
  go_loopw [9, 10] (fun t9 t10 wr => ∃ j : Int, -1 ≤ j ∧ j ≤ at1 ∧ t10 = .int .i64 j ∧ t9 = .int .i64 (idxFrom xs v (min (j + 1).toNat at1)) ∧ Dr w1 wr) (fun _ t10 _ => (intOf t10 + 1).toNat)
  case atStart =>
    refine ⟨(at1 : Int), by omega, by omega, rfl, ?_, Dr.refl _⟩
    rw [show min ((at1 : Int) + 1).toNat at1 = at1 from by omega, Hhit.out]
  case round =>
    obtain ⟨j, hj1, hj2, rfl, rfl, ⟨q, rfl⟩⟩ := hrel
    have bj := Hfle.out (min (j + 1).toNat at1) (by omega)
    by_cases hge : 0 ≤ j
    · obtain ⟨k, rfl⟩ := Int.eq_ofNat_of_zero_le hge
      have lx : k < xs.length := by omega
      have g1 := Hc1.out k (.string xs[k]) (by simp [lx])
      have Hk : Hid (xs[k] = v → idxFrom xs v (min k at1) = (k : Int)) := Lib.hid (fun e => by rw [Nat.min_eq_left (by omega)]; exact idxFrom_hit xs v lx e)
      have Hk' : Hid (xs[k] ≠ v → idxFrom xs v (min k at1) = idxFrom xs v (min ((k : Int) + 1).toNat at1)) := Lib.hid (fun e => by
        have hne : k ≠ at1 := by rintro rfl; exact e Hv.out
        rw [Nat.min_eq_left (by omega), show min ((k : Int) + 1).toNat at1 = k + 1 from by omega]
        exact idxFrom_miss xs v lx e)
      generalize idxFrom xs v (min ((k : Int) + 1).toNat at1) = t at *
      generalize xs[k] = x at *
      by_cases hxy : x = v
      · have e1 := eqS hxy
        have He := Lib.hid hxy
        clear hxy
        go_wp2
        go_quiet (fail)
        go_wp2
        go_roundw
        case rel =>
          refine ⟨(k : Int) - 1, by omega, by omega, rfl, ?_, (by first | exact ⟨_, rfl⟩ | exact Dr.n ⟨_, rfl⟩ _)⟩
          rw [show ((k : Int) - 1 + 1).toNat = k from by omega, Hk.out He.out]
        case measure => simp [intOf]
      · have e1 := neS hxy
        have He := Lib.hid hxy
        clear hxy
        go_wp2
        go_quiet (fail)
        go_wp2
        go_roundw
        case rel =>
          refine ⟨(k : Int) - 1, by omega, by omega, rfl, ?_, (by first | exact ⟨_, rfl⟩ | exact Dr.n ⟨_, rfl⟩ _)⟩
          rw [show ((k : Int) - 1 + 1).toNat = k from by omega, Hk'.out He.out]
        case measure => simp [intOf]
    · have : j = -1 := by omega
      subst this
      have e1 : min ((-1 : Int) + 1).toNat at1 = 0 := by simp
      rw [e1, idxFrom_zero]
      clear bj e1
      have HB1q := Lib.hid (HB1.out.trans (Dr.below (B := w.heap.size) ⟨q, rfl⟩))
      have Hx1q := Lib.hid (Hx1.out.keep (w' := w1.drewN q) fun p hp => rfl)
      go_wp2_with fail
      refine (cut_any _ n ca w.heap.size xs 7 off lim v _ Hx1q.out Hn.out (by omega) hcap hre H0.out z1 (by omega) bo bl).mono ?_
      rw [Hacut.out]
      rintro e w2 ⟨A2, c2, rfl, ho2, hb2⟩
      have z2 : w1.heap.size ≤ w2.heap.size := hb2.size
      have Hx2 := Lib.hid (Hx1q.out.below (hb2.mono z1))
      have HB2 := Lib.hid (HB1q.out.trans (hb2.mono z1))
      have Hr2 := Lib.hid (Rd.of_own ho2)
      clear hb2 ho2
      go_wp2_with fail
      refine (cut_any _ n ca w.heap.size xs (mxF (idxF xs v + off) 0) 0 lim ⟨#[]⟩ _ Hx2.out Hn.out (by omega) hcap hre H0.out (by omega) (by omega) (by omega) bl).mono ?_
      rw [Hpcut.out]
      rintro e w3 ⟨A3, c3, rfl, ho3, hb3⟩
      have z3 : w2.heap.size ≤ w3.heap.size := hb3.size
      have HB3 := Lib.hid (HB2.out.trans (hb3.mono (by omega)))
      have Hr23 := Lib.hid ((Hr2.out.below hb3).mono (B' := w3.heap.size) z3)
      have Hr3 := Lib.hid (Rd.of_own ho3)
      clear hb3 ho3
      go_wp2_with fail
      refine (same_any _ _ _ _ _ _ w3.heap.size l l _ Hr23.out Hr3.out rfl rfl (by omega) (by omega)).mono ?_
      rintro e w4 ⟨rfl, hd4⟩
      have HB4 := Lib.hid (HB3.out.trans (hd4.below (B := w.heap.size)))
      clear hd4
      go_wp2_with fail
      go_ret
      exact ⟨ret_bool (by simp), HB4.out⟩
end Go.Proofs.Ytgijjmcjobjoeaa
