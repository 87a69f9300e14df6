import Derived.Test.YtebfnglhbfkkdaaF16
namespace Go.Proofs.Ytebfnglhbfkkdaa
open Go.RowKit

theorem sizes_step (xs : List ByteArray) (k N : Nat) (h : k < xs.length) (hN : ∀ x ∈ xs.take k, x.size ≤ N) : ∀ x ∈ xs.take (k + 1), x.size ≤ N + xs[k].size := by
  intro x hx
  rw [take_succ_eq xs k h, List.mem_append, List.mem_singleton] at hx
  rcases hx with hx | rfl
  · have := hN x hx; omega
  · omega

set_option maxHeartbeats 2000000 in
theorem foldTerms_walk (q : ByteArray) (A : Option Addr) (n ca : Nat) (xs : List ByteArray) (w : World) (hq : q.size ≤ 140737488351232) (hx : Rd w w.heap.size A (xs.map Value.string))
    (hn : xs.length = n) (_hcap : n ≤ ca) (_hre : ca * 16 ≤ 140737488351232) (_he : A = none → n = 0) (hs : ∀ x ∈ xs, x.size ≤ 140737488351232) (hm : MaxAt w) (h0 : 0 < w.heap.size) :
    Calls Try.prog 4 #[.string q, .slice A n ca] w fun e w' => e = .returned (.bool true) ∧ Below w.heap.size w w' := by
  have Hm := Lib.hid hm
  have Hx := Lib.hid hx
  have Hn := Lib.hid hn
  have Hs := Lib.hid hs
  clear hm hx hn hs
  go_enter Try.func4, Try.ntmps4
  go_wp2
  go_loopw [5, 6] (fun s5 i wr => ∃ k N : Nat, k ≤ n ∧ i = .int .i64 k ∧ s5 = .int .i64 N ∧ q.size ≤ N ∧ N ≤ 140737488356232 ∧ Hid (∀ x ∈ xs.take k, x.size ≤ N) ∧ w = wr) (fun _ i _ => n - (intOf i).toNat)
  case atStart => exact ⟨0, q.size, Nat.zero_le _, rfl, rfl, Nat.le_refl _, by omega, Lib.hid (by simp), rfl⟩
  case round =>
    obtain ⟨k, N, hk, rfl, rfl, hqN, hN, Hz, rfl⟩ := hrel
    by_cases hlt : k < n
    · by_cases hN5 : N ≤ 5000
      · have lx : k < xs.length := by rw [Hn.out]; exact hlt
        obtain ⟨b, off, rfl, _, hc⟩ := Hx.out.at_ (by simp; omega)
        have h1 := hc k (.string xs[k]) (by simp [lx])
        clear hc
        have zx := Hs.out xs[k] (List.getElem_mem lx)
        have Hz2 := Lib.hid (sizes_step xs k N lx Hz.out)
        generalize xs[k] = x at *
        go_wp2
        go_roundw
        case rel => exact ⟨k + 1, N + x.size, by omega, by go_num, by go_num, by omega, by omega, Hz2, trivial⟩
        case measure => simp [intOf]; omega
      · go_wp2_with fail
        refine (awake_any _ Hm.out h0).mono ?_
        rintro e w1 ⟨rfl, hb1⟩
        go_wp2_with fail
        go_ret
        exact ⟨rfl, hb1⟩
    · by_cases hN5 : N ≤ 5000
      · by_cases h200 : 200 < n
        · go_wp2_with fail
          refine (awake_any _ Hm.out h0).mono ?_
          rintro e w1 ⟨rfl, hb1⟩
          go_wp2_with fail
          go_ret
          exact ⟨rfl, hb1⟩
        · have Hz2 : Hid (∀ x ∈ xs, x.size ≤ 5000) := Lib.hid (fun x hx => by
            have := Hz.out x (by rw [show k = xs.length by rw [Hn.out]; omega, List.take_length]; exact hx)
            omega)
          have hlen := termsF_len q
          have Hlen := Lib.hid hlen
          clear hlen
          go_wp2_with fail
          refine (awake_any _ Hm.out h0).mono ?_
          rintro e w1 ⟨rfl, hb1⟩
          have z1 : w.heap.size ≤ w1.heap.size := hb1.size
          have HB1 := Lib.hid hb1
          clear hb1
          go_wp2_with fail
          refine (terms_at q (by omega) _ _ rfl rfl _).mono ?_
          rintro e w2 ⟨A2, c2, rfl, ho2, hb2⟩
          have z2 : w1.heap.size ≤ w2.heap.size := hb2.size
          have HB2 := Lib.hid (HB1.out.trans (hb2.mono (by omega)))
          have Hr2 := Lib.hid (Rd.of_own ho2)
          clear hb2 ho2
          go_wp2_with fail
          refine (rterms_at q (by omega) _ _ rfl rfl _).mono ?_
          rintro e w3 ⟨A3, c3, rfl, ho3, hb3⟩
          have z3 : w2.heap.size ≤ w3.heap.size := hb3.size
          have HB3 := Lib.hid (HB2.out.trans (hb3.mono (by omega)))
          have Hr23 := Lib.hid ((Hr2.out.below hb3).mono (B' := w3.heap.size) (by omega))
          have Hr3 := Lib.hid (Rd.of_own ho3)
          clear hb3 ho3
          have hl2 := Hlen.out
          go_wp2_with fail
          refine (same_any _ _ _ _ _ _ w3.heap.size (termsF q) (termsF q) _ Hr23.out Hr3.out rfl rfl (by omega) (by omega)).mono ?_
          rintro e w4 ⟨rfl, hd4⟩
          have z4 : w3.heap.size ≤ w4.heap.size := (hd4.below (B := w3.heap.size)).size
          have HB4 := Lib.hid (HB3.out.trans (hd4.below (B := w.heap.size)))
          clear hd4 hl2
          have Hx4 := Lib.hid (Hx.out.below HB4.out)
          rw [decide_eq_true (rfl : termsF q = termsF q)]
          go_wp2_with fail
          refine (match_std q A n ca w.heap.size xs (by omega) (fun x hx => by have := Hz2.out x hx; omega) _ Hx4.out (by omega) Hn.out (by omega) (Hm.out.below HB4.out h0) (by omega) _ rfl).mono ?_
          rintro e w5 ⟨rfl, hb5⟩
          have z5 : w4.heap.size ≤ w5.heap.size := hb5.size
          have HB5 := Lib.hid (HB4.out.trans (hb5.mono (by omega)))
          have Hx5 := Lib.hid (Hx.out.below HB5.out)
          clear hb5
          go_wp2_with fail
          refine (rmatch_any q A n ca w.heap.size xs (by omega) (fun x hx => by have := Hz2.out x hx; omega) _ Hx5.out (by omega) Hn.out (by omega)).mono ?_
          rintro e w6 ⟨rfl, hb6⟩
          have HB6 := Lib.hid (HB5.out.trans (hb6.mono (by omega)))
          clear hb6
          go_wp2_with fail
          go_ret
          exact ⟨ret_bool (by simp), HB6.out⟩
      · go_wp2_with fail
        refine (awake_any _ Hm.out h0).mono ?_
        rintro e w1 ⟨rfl, hb1⟩
        go_wp2_with fail
        go_ret
        exact ⟨rfl, hb1⟩
end Go.Proofs.Ytebfnglhbfkkdaa
