import Derived.Test.YtgijjmcjobjoeaaU14
namespace Go.Proofs.Ytgijjmcjobjoeaa
open Go.RowKit

theorem isF_enc (p : Int) : isF p = true ↔ encL p ≠ [] := by
  unfold isF
  rw [decide_eq_true_eq]
  unfold encL
  constructor
  · intro h
    rw [if_neg (by omega)]
    repeat' split
    all_goals simp
  · intro h
    by_cases h0 : p < 0 ∨ 1114111 < p ∨ (55296 ≤ p ∧ p ≤ 57343)
    · rw [if_pos h0] at h; exact absurd rfl h
    · omega

set_option maxHeartbeats 1000000 in
theorem rjoin_any (A : Option Addr) (n ca B : Nat) (xs : List Int) (w : World) (hx : Rd w B A (xs.map (Value.int .i32)))
    (hn : xs.length = n) (bn : n * 4 ≤ 140737488351232) (hB : B ≤ w.heap.size) (hb : ∀ p ∈ xs, (-2147483648 : Int) ≤ p ∧ p ≤ 2147483647) :
    Calls Try.prog 25 #[.slice A n ca] w (JoinPost w.heap.size w xs) := by
  have Hn := Lib.hid hn
  have Hx := Lib.hid hx
  have Hb := Lib.hid hb
  clear hx hn hb
  go_enter Try.func25, Try.ntmps25
  go_wp2
  go_loopw [2, 3, 4, 5] (fun t2 t3 t4 t5 wr => ∃ (k m : Nat), k ≤ n ∧ t5 = .int .i64 k ∧ goodK xs k ∧ (bytesK xs k).length = m ∧ wr.ownsRow w.heap.size 5 1 t4 m ((bytesK xs k).map (Value.int .u8)) ∧ Below w.heap.size w wr) (fun _ _ _ t5 _ => n - (intOf t5).toNat)
  case atStart => exact ⟨0, 0, Nat.zero_le _, rfl, fun p hp => by simp at hp, rfl, World.ownsRow_nil _ _ _ _, Below.refl _ _⟩
  case round =>
    obtain ⟨k, m, hk, rfl, hg, hm, hown, hbw⟩ := hrel
    obtain ⟨A1, c1, rfl⟩ := own_form hown
    have hml := bytesK_len xs k
    rw [hm] at hml
    have Hg := Lib.hid hg
    have Hm := Lib.hid hm
    have Hown := Lib.hid hown
    have Hbw := Lib.hid hbw
    have zb := hbw.size
    clear hg hm hown hbw
    by_cases hlt : k < n
    · have lx : k < xs.length := by rw [Hn.out]; exact hlt
      obtain ⟨b, o, rfl, hbB, hc⟩ := Hx.out.at_ (by simp; omega)
      have h1 : wr.cell? ⟨b, o + k, none⟩ = some (.int .i32 xs[k]) := (Hbw.out.cell (p := ⟨b, o + k, none⟩) (by show b < _; omega)).trans (hc k (.int .i32 xs[k]) (by simp [lx]))
      have hpb := Hb.out xs[k] (List.getElem_mem lx)
      have Hst : Hid (encL xs[k] = [] → joinB xs = bytesK xs k ∧ joinN xs = k) := Lib.hid (join_stop lx Hg.out)
      have Hgs : Hid (encL xs[k] ≠ [] → goodK xs (k + 1)) := Lib.hid (goodK_step lx Hg.out)
      have Hbs : Hid (bytesK xs (k + 1) = bytesK xs k ++ encL xs[k]) := Lib.hid (bytesK_step lx)
      clear hc
      generalize xs[k] = p at *
      have hel := encL_len p
      by_cases h0 : encL p = []
      · have e0 : isF p = false := by
          cases hi : isF p with
          | false => rfl
          | true => exact absurd h0 ((isF_enc p).1 hi)
        have hst := Hst.out h0
        have Hf := Lib.hid hst
        have hcv := conv_own Hown.out
        clear h0 hst
        go_wp2_with fail
        refine (is_any p _).mono ?_
        rintro e w' ⟨rfl, rfl⟩
        go_wp2
        go_ret2
        unfold JoinPost
        rw [Hf.out.1, Hf.out.2]
        exact ⟨rfl, Hbw.out⟩
      · have e0 : isF p = true := (isF_enc p).2 h0
        have hgs := Hgs.out h0
        have Hgs2 := Lib.hid hgs
        clear h0 hgs
        go_wp2_with fail
        refine (is_any p _).mono ?_
        rintro e w' ⟨rfl, rfl⟩
        go_wp2_with fail
        refine (bytes_any p (by omega) _).mono ?_
        rintro e w1 ⟨A2, c2, rfl, ho1, hb1⟩
        obtain ⟨q, hq⟩ : ∃ q, (encL p).length = q := ⟨_, rfl⟩
        rw [hq] at ho1 hel ⊢
        have Hq := Lib.hid hq
        have Ho1 := Lib.hid (Rd.of_own ho1)
        have hown1 := own_below Hown.out hb1 (Nat.le_refl _)
        have Hb1 := Lib.hid (Hbw.out.trans (hb1.mono zb))
        have z1 : w.heap.size ≤ w1.heap.size := Nat.le_trans zb hb1.size
        clear hb1 hq ho1
        go_wp2_with (at_builtin; refine wpList_app _ rfl _ _ 42 5 rfl w.heap.size _ 1 Try.underlying42 info5 rfl _ m _ rfl hown1 w1.heap.size _ q _ ((encL p).map (Value.int .u8)) rfl Ho1.out ?c2 (ints_oneCell .u8 _) ?c3 ?c4 z1 ?_)
        case c2 => rw [List.length_map]; exact Hq.out
        case c3 => omega
        case c4 => first | omega | (simp only [maxLen]; omega)
        intro v' w2 hown2 hgrow
        have hb3 := Below.own Hb1.out hown1 hgrow z1 (Nat.le_refl _)
        have hown3 : w2.ownsRow w.heap.size 5 1 v' (m + q) ((bytesK xs (k + 1)).map (Value.int .u8)) := by
          rw [Hbs.out, List.map_append]; exact hown2
        have hl3 : (bytesK xs (k + 1)).length = m + q := by rw [Hbs.out, List.length_append, Hm.out, Hq.out]
        have Hl3 := Lib.hid hl3
        have Hown3 := Lib.hid hown3
        clear hown2 hgrow hown1 hown3 hl3
        go_wp2
        go_roundw
        case rel => exact ⟨k + 1, m + q, by omega, by go_num, Hgs2.out, Hl3.out, Hown3.out, hb3⟩
        case measure => simp [intOf]; omega
    · have hkn : k = n := by omega
      have Hkn := Lib.hid hkn
      have hcv := conv_own Hown.out
      have hf := join_end (xs := xs) (by rw [Hn.out, ← hkn]; exact Hg.out)
      rw [Hn.out, ← hkn] at hf
      have Hf := Lib.hid hf
      clear hf hkn
      go_wp2
      go_ret2
      unfold JoinPost
      rw [Hf.out.1, Hf.out.2, Hkn.out]
      exact ⟨rfl, Hbw.out⟩

set_option maxHeartbeats 1000000 in
theorem utfJoins_walk (A : Option Addr) (n ca : Nat) (xs : List Int) (w : World) (hx : Rd w w.heap.size A (xs.map (Value.int .i32)))
    (hn : xs.length = n) (hcap : n ≤ ca) (hre : ca * 4 ≤ 140737488351232) (_h0 : A = none → n = 0) (hb : ∀ p ∈ xs, (-2147483648 : Int) ≤ p ∧ p ≤ 2147483647) :
    Calls Try.prog 11 #[.slice A n ca] w fun e w' => e = .returned (.bool true) ∧ Below w.heap.size w w' := by
  have Hn := Lib.hid hn
  have Hx := Lib.hid hx
  have Hb := Lib.hid hb
  clear hx hn hb _h0
  obtain ⟨S, hS⟩ : ∃ S, strOfNums (joinB xs) = S := ⟨_, rfl⟩
  obtain ⟨q, hq⟩ : ∃ q, joinN xs = q := ⟨_, rfl⟩
  have HS := Lib.hid hS
  have Hq := Lib.hid hq
  have e1 := eqS (show S = S from rfl)
  clear hS hq
  go_enter Try.func11, Try.ntmps11
  go_wp2_with fail
  refine (join_any A n ca w.heap.size xs _ Hx.out Hn.out (by omega) (Nat.le_refl _) Hb.out).mono ?_
  unfold JoinPost
  rw [HS.out, Hq.out]
  rintro e w1 ⟨rfl, hb1⟩
  have z1 := hb1.size
  have HB1 := Lib.hid hb1
  have Hx1 := Lib.hid (Hx.out.below hb1)
  clear hb1
  go_wp2_with fail
  refine (rjoin_any A n ca w.heap.size xs _ Hx1.out Hn.out (by omega) z1 Hb.out).mono ?_
  unfold JoinPost
  rw [HS.out, Hq.out]
  rintro e w2 ⟨rfl, hb2⟩
  have z2 := hb2.size
  have HB2 := Lib.hid (HB1.out.trans (hb2.mono z1))
  clear hb2
  go_wp2_with fail
  refine (uawake_any _).mono ?_
  rintro e w3 ⟨rfl, hb3⟩
  have HB3 := Lib.hid (HB2.out.trans (hb3.mono (by omega)))
  clear hb3
  go_wp2_with fail
  go_ret
  exact ⟨ret_bool (by simp), HB3.out⟩
end Go.Proofs.Ytgijjmcjobjoeaa
