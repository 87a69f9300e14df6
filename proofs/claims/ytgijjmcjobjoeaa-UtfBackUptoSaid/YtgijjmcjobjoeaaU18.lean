import Derived.Test.YtgijjmcjobjoeaaU17
namespace Go.Proofs.Ytgijjmcjobjoeaa
open Go.RowKit

theorem joinB_len : ∀ (xs : List Int), (joinB xs).length ≤ 4 * xs.length
  | [] => by simp [joinB]
  | p :: l => by
    have h := joinB_len l
    have h2 := encL_len p
    simp only [joinB]
    split
    · simp
    · rw [List.length_append, List.length_cons]; omega

set_option maxRecDepth 100000 in
set_option maxHeartbeats 2000000 in
theorem utfBack_walk (A : Option Addr) (n ca : Nat) (xs : List Int) (s : ByteArray) (w : World) (hx : Rd w w.heap.size A (xs.map (Value.int .i32)))
    (hn : xs.length = n) (hcap : n ≤ ca) (hre : ca * 4 ≤ 140737488351232) (_h0 : A = none → n = 0) (hb : ∀ p ∈ xs, (-2147483648 : Int) ≤ p ∧ p ≤ 2147483647) (hu : ca ≤ 1048575)
    (_hs : s.size ≤ 140737488351232) (hus : s.size ≤ 1048575) :
    Calls Try.prog 13 #[.slice A n ca, .string s] w fun e w' => e = .returned (.bool true) ∧ Below w.heap.size w w' := by
  -- what is written
  obtain ⟨S, hS⟩ : ∃ S, strOfNums (joinB xs) = S := ⟨_, rfl⟩
  obtain ⟨q, hq⟩ : ∃ q, joinN xs = q := ⟨_, rfl⟩
  have hSz : S.size ≤ 4194300 := by
    have h1 := joinB_len xs
    rw [← hS, strOfNums_size]; omega
  have hqn : q ≤ n := by rw [← hq, ← hn]; exact joinN_le xs
  have hrd := read_joined xs
  rw [hS, hq] at hrd
  have hlq : (xs.take q).length = q := by rw [List.length_take]; omega
  -- what is read
  have hpt := pts_pt s s.size 0 (by omega)
  have hpl := ptsF_len s s.size 0 (by omega)
  have heb := endF_bd s 0 (Nat.zero_le _)
  have hjr := join_read s s.size 0 (by omega)
  obtain ⟨ys, hys⟩ : ∃ ys, ptsF s 0 = ys := ⟨_, rfl⟩
  obtain ⟨r, hr⟩ : ∃ r, ys.length = r := ⟨_, rfl⟩
  obtain ⟨m, hm⟩ : ∃ m, endF s 0 = m := ⟨_, rfl⟩
  rw [hys] at hpt hpl hjr
  rw [hr] at hpl hjr
  rw [hm] at heb hjr
  have hU : strOfNums (joinB ys) = s.extract 0 m := by
    have h := (str_eq_iff s (joinB ys) (joinB_isB ys) 0 m (by omega)).2 hjr.1
    rw [Nat.zero_add] at h
    exact h
  have hbd : ∀ p ∈ ys, (-2147483648 : Int) ≤ p ∧ p ≤ 2147483647 := by
    intro p hp
    have := hpt p hp
    unfold isPt at this
    omega
  have Hn := Lib.hid hn
  have Hx := Lib.hid hx
  have Hb := Lib.hid hb
  have HS := Lib.hid hS
  have Hq := Lib.hid hq
  have Hrd := Lib.hid hrd
  have Hlq := Lib.hid hlq
  have Hys := Lib.hid hys
  have Hr := Lib.hid hr
  have Hm := Lib.hid hm
  have HU := Lib.hid hU
  have Hbd := Lib.hid hbd
  have Hjn := Lib.hid hjr.2
  have e1 := eqS (show s.extract 0 m = s.extract 0 m from rfl)
  have t1 : ((q : Int) == (q : Int)) = true := by simp
  have t2 : ((q : Int) != (q : Int)) = false := by simp
  have t3 : ((S.size : Int) == (S.size : Int)) = true := by simp
  have t4 : ((S.size : Int) != (S.size : Int)) = false := by simp
  have t5 : ((r : Int) == (r : Int)) = true := by simp
  clear hx hn hb _h0 hS hq hrd hlq hys hr hm hU hbd hjr hpt
  go_enter Try.func13, Try.ntmps13
  go_wp2_with fail
  refine (join_any A n ca w.heap.size xs _ Hx.out Hn.out (by omega) (Nat.le_refl _) Hb.out).mono ?_
  unfold JoinPost
  rw [HS.out, Hq.out]
  rintro e w1 ⟨rfl, hb1⟩
  have z1 := hb1.size
  have HB1 := Lib.hid hb1
  have Hx1 := Lib.hid (Hx.out.below hb1)
  clear hb1
  go_wp2_with fail
  refine (points_any S (by omega) _).mono ?_
  rw [Hrd.out.1, Hrd.out.2, Hlq.out]
  rintro e w2 ⟨A2, c2, rfl, _, ho2, hb2⟩
  have z2 := hb2.size
  have HB2 := Lib.hid (HB1.out.trans (hb2.mono z1))
  have Hx2 := Lib.hid (Hx1.out.below (hb2.mono z1))
  have Hr2 := Lib.hid (Rd.of_own ho2)
  clear hb2 ho2
  go_wp2_with fail
  refine (uawake_any _).mono ?_
  rintro e w3 ⟨rfl, hb3⟩
  have z3 := hb3.size
  have HB3 := Lib.hid (HB2.out.trans (hb3.mono (by omega)))
  have Hx3 := Lib.hid (Hx2.out.below (hb3.mono (by omega)))
  have Hr3 := Lib.hid (Hr2.out.below hb3)
  clear hb3
  go_wp2_with fail
  go_loopw [9] (fun i wr => ∃ k : Nat, k ≤ q ∧ i = .int .i64 k ∧ Dr w3 wr) (fun i _ => q - (intOf i).toNat)
  case atStart => exact ⟨0, Nat.zero_le _, rfl, Dr.refl _⟩
  case round =>
    obtain ⟨k, hk, rfl, ⟨d, rfl⟩⟩ := hrel
    by_cases hlt : k < q
    · have lx : k < xs.length := by rw [Hn.out]; omega
      obtain ⟨b, o, rfl, _, hc⟩ := Hr3.out.at_ (by rw [List.length_map, Hlq.out]; omega)
      obtain ⟨b2, o2, rfl, _, hc2⟩ := Hx3.out.at_ (by simp; omega)
      have h1 := hc k (.int .i32 xs[k]) (by simp [hlt, lx])
      have h2 := hc2 k (.int .i32 xs[k]) (by simp [lx])
      clear hc hc2
      generalize xs[k] = p at *
      have e5 : (p == p) = true := by simp
      have e6 : (p != p) = false := by simp
      go_wp2
      go_quiet (fail)
      go_wp2
      go_roundw
      case rel => exact ⟨k + 1, by omega, by go_num, (by first | exact ⟨_, rfl⟩ | exact Dr.n ⟨_, rfl⟩ _)⟩
      case measure => simp [intOf]; omega
    · have HB3d := Lib.hid (HB3.out.trans (Dr.below (B := w.heap.size) ⟨d, rfl⟩))
      go_wp2_with fail
      refine (points_any s (by omega) _).mono ?_
      rw [Hys.out, Hr.out, Hm.out]
      rintro e w4 ⟨A4, c4, rfl, _, ho4, hb4⟩
      have z4 : w3.heap.size ≤ w4.heap.size := hb4.size
      have HB4 := Lib.hid (HB3d.out.trans (hb4.mono (by show _ ≤ w3.heap.size; omega)))
      have Hr4 := Lib.hid (Rd.of_own ho4)
      clear hb4 ho4
      go_wp2_with fail
      refine (join_any A4 r c4 w4.heap.size ys _ Hr4.out Hr.out (by omega) (Nat.le_refl _) Hbd.out).mono ?_
      unfold JoinPost
      rw [HU.out, Hjn.out]
      rintro e w5 ⟨rfl, hb5⟩
      have HB5 := Lib.hid (HB4.out.trans (hb5.mono (by omega)))
      clear hb5
      go_wp2_with fail
      go_ret
      exact ⟨ret_bool (by simp), HB5.out⟩
end Go.Proofs.Ytgijjmcjobjoeaa
