import Derived.Test.YtgijjmcjobjoeaaU13
import Derived.Test.YtgijjmcjobjoeaaU10
namespace Go.Proofs.Ytgijjmcjobjoeaa
open Go.RowKit

theorem pts_pt (s : ByteArray) (d : Nat) : ∀ a, s.size - a ≤ d → ∀ p ∈ ptsF s a, isPt p := by
  induction d with
  | zero =>
    intro a h
    rw [ptsF_stop s a (stepN_end s a (by omega))]; intro p hp; cases hp
  | succ d ih =>
    intro a h
    have hb := stepN_bd s a
    by_cases h0 : stepN s a = 0
    · rw [ptsF_stop s a h0]; intro p hp; cases hp
    · rw [ptsF_go s a h0]
      intro p hp
      rcases List.mem_cons.1 hp with rfl | hp
      · exact (decF_enc s a h0).1
      · exact ih _ (by omega) p hp

set_option maxHeartbeats 1000000 in
theorem utfPoints_walk (s : ByteArray) (w : World) (_hs : s.size ≤ 140737488351232) (hu : s.size ≤ 1048575) :
    Calls Try.prog 12 #[.string s] w fun e w' => e = .returned (.bool true) ∧ Below w.heap.size w w' := by
  have hpt := pts_pt s s.size 0 (by omega)
  have hpl := ptsF_len s s.size 0 (by omega)
  have heb := endF_bd s 0 (Nat.zero_le _)
  obtain ⟨xs, hxs⟩ : ∃ xs, ptsF s 0 = xs := ⟨_, rfl⟩
  obtain ⟨n, hn⟩ : ∃ n, xs.length = n := ⟨_, rfl⟩
  obtain ⟨m, hm⟩ : ∃ m, endF s 0 = m := ⟨_, rfl⟩
  rw [hxs] at hpt hpl
  rw [hn] at hpl
  rw [hm] at heb
  have Hxs := Lib.hid hxs
  have Hn := Lib.hid hn
  have Hm := Lib.hid hm
  have Hpt := Lib.hid hpt
  have t1 : ((m : Int) == (m : Int)) = true := by simp
  have t2 : ((m : Int) != (m : Int)) = false := by simp
  have t3 : ((n : Int) == (n : Int)) = true := by simp
  have t4 : ((n : Int) != (n : Int)) = false := by simp
  clear hxs hn hm hpt
  go_enter Try.func12, Try.ntmps12
  go_wp2_with fail
  refine (points_any s (by omega) _).mono ?_
  rw [Hxs.out, Hn.out, Hm.out]
  rintro e w1 ⟨A1, c1, rfl, _, ho1, hb1⟩
  have z1 := hb1.size
  have HB1 := Lib.hid hb1
  have Hr1 := Lib.hid (Rd.of_own ho1)
  clear hb1 ho1
  go_wp2_with fail
  refine (rpoints_any s (by omega) _).mono ?_
  rw [Hxs.out, Hn.out, Hm.out]
  rintro e w2 ⟨A2, c2, rfl, _, ho2, hb2⟩
  have z2 := hb2.size
  have HB2 := Lib.hid (HB1.out.trans (hb2.mono z1))
  have Hr12 := Lib.hid ((Hr1.out.below hb2).mono (B' := w2.heap.size) z2)
  have Hr2 := Lib.hid (Rd.of_own ho2)
  clear hb2 ho2
  go_wp2_with fail
  refine (uawake_any _).mono ?_
  rintro e w3 ⟨rfl, hb3⟩
  have HB3 := Lib.hid (HB2.out.trans (hb3.mono (by omega)))
  have Hr13 := Lib.hid (Hr12.out.below hb3)
  have Hr23 := Lib.hid (Hr2.out.below hb3)
  clear hb3
  go_wp2_with fail
  refine (bad_any s (by omega) _).mono ?_
  rw [Hm.out]
  rintro e w' ⟨rfl, rfl⟩
  go_wp2_with fail
  go_loopw [7] (fun i wr => ∃ k : Nat, k ≤ n ∧ i = .int .i64 k ∧ Dr w3 wr) (fun i _ => n - (intOf i).toNat)
  case atStart => exact ⟨0, Nat.zero_le _, rfl, Dr.refl _⟩
  case round =>
    obtain ⟨k, hk, rfl, ⟨q, rfl⟩⟩ := hrel
    by_cases hlt : k < n
    · have lx : k < xs.length := by rw [Hn.out]; exact hlt
      have hp := Hpt.out xs[k] (List.getElem_mem lx)
      unfold isPt at hp
      obtain ⟨b, o, rfl, _, hc⟩ := Hr13.out.at_ (by simp; omega)
      obtain ⟨b2, o2, rfl, _, hc2⟩ := Hr23.out.at_ (by simp; omega)
      have h1 := hc k (.int .i32 xs[k]) (by simp [lx])
      have h2 := hc2 k (.int .i64 xs[k]) (by simp [lx])
      clear hc hc2
      generalize xs[k] = p at *
      have e1 : (p == p) = true := by simp
      have e2 : (p != p) = false := by simp
      have e3 : IntKind.i64.wrap p = p := IntWalk.i64_in _ (by omega)
      go_wp2
      go_quiet (fail)
      go_wp2
      go_roundw
      case rel => exact ⟨k + 1, by omega, by go_num, (by first | exact ⟨_, rfl⟩ | exact Dr.n ⟨_, rfl⟩ _)⟩
      case measure => simp [intOf]; omega
    · go_wp2
      go_ret
      exact ⟨rfl, HB3.out.trans (Dr.below ⟨_, rfl⟩)⟩
end Go.Proofs.Ytgijjmcjobjoeaa
