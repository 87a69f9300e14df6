import Derived.Test.YtebfnglhbfkkdaaF16
namespace Go.Proofs.Ytebfnglhbfkkdaa
open Go.RowKit

/-- a guard that lets by -/
theorem wpList_strike {P : Program} {ops : Array Oper} {Q : Exit → Act → World → Prop} {rest : List Oper} {o : Oper} {a : Act} {w : World} (hw : Region.wanted o (yielded ops a.tmps) = true)
    (h : wpList P ops Q ({ o with guard := none } :: rest) a w) : wpList P ops Q (o :: rest) a w := by
  unfold wpList at h ⊢
  rw [if_pos hw]
  rw [if_pos (by simp [Region.wanted])] at h
  exact h
theorem count_take (s : ByteArray) (k : Nat) (h : k < s.size) : (s.data.toList.take (k + 1)).count 34 = (s.data.toList.take k).count 34 + if ((s[k]'h).toNat : Int) = 34 then 1 else 0 := by
  have hl : k < s.data.toList.length := by simpa using h
  rw [take_succ_eq _ k hl, List.count_append]
  congr 1
  have e : s.data.toList[k]'hl = s[k]'h := rfl
  rw [e]
  by_cases hc : ((s[k]'h).toNat : Int) = 34
  · rw [if_pos hc, u8_eq (k := 34) hc]; rfl
  · rw [if_neg hc, List.count_eq_zero]
    intro hm
    rw [List.mem_singleton] at hm
    exact hc (by rw [← hm]; rfl)

set_option maxHeartbeats 2000000 in
theorem foldJoined_walk (p q : ByteArray) (w : World) (hp : p.size ≤ 140737488351232) (hq : q.size ≤ 140737488351232) (hm : MaxAt w) (h0 : 0 < w.heap.size) :
    Calls Try.prog 6 #[.string p, .string q] w fun e w' => e = .returned (.bool true) ∧ Below w.heap.size w w' := by
  have Hm := Lib.hid hm
  clear hm
  go_enter Try.func6, Try.ntmps6
  go_wp2
  go_loopw [5, 6] (fun s5 i wr => ∃ k N : Nat, k ≤ p.size ∧ i = .int .i64 k ∧ s5 = .int .i64 N ∧ N ≤ k ∧ Hid ((p.data.toList.take k).count 34 = N) ∧ w = wr) (fun _ i _ => p.size - (intOf i).toNat)
  case atStart => exact ⟨0, 0, Nat.zero_le _, rfl, rfl, Nat.le_refl _, Lib.hid (by simp), rfl⟩
  case round =>
    obtain ⟨k, N, hk, rfl, rfl, hN, Hc, rfl⟩ := hrel
    by_cases hlt : k < p.size
    · have Hst := Lib.hid (count_take p k hlt)
      by_cases h34 : ((p[k]'hlt).toNat : Int) = 34
      · have Hc2 : Hid ((p.data.toList.take (k + 1)).count 34 = N + 1) := Lib.hid (by rw [Hst.out, if_pos h34, Hc.out])
        have b1 : (((p[k]'hlt).toNat : Int) == 34) = true := beq_iff_eq.2 h34
        clear h34
        go_wp2
        go_roundw
        case rel => exact ⟨k + 1, N + 1, by omega, by go_num, by go_num, by omega, Hc2, trivial⟩
        case measure => simp [intOf]; omega
      · have Hc2 : Hid ((p.data.toList.take (k + 1)).count 34 = N) := Lib.hid (by rw [Hst.out, if_neg h34, Hc.out]; rfl)
        have b1 : (((p[k]'hlt).toNat : Int) == 34) = false := beq_eq_false_iff_ne.2 h34
        clear h34
        go_wp2
        go_roundw
        case rel => exact ⟨k + 1, N, by omega, by go_num, rfl, by omega, Hc2, trivial⟩
        case measure => simp [intOf]; omega
    · have Hcnt : Hid (p.data.toList.count 34 = N) := Lib.hid (by
        have := Hc.out
        have hl : p.data.toList.length = p.size := by simp
        rwa [List.take_of_length_le (by omega)] at this)
      have hN2 : (N : Int) % 2 = 0 ∨ (N : Int) % 2 = 1 := by omega
      rcases hN2 with h2 | h2
      · have b2 : (((N : Int) % 2) != 0) = false := by rw [h2]; rfl
        have Hev : Hid (p.data.toList.count 34 % 2 = 0) := Lib.hid (by rw [Hcnt.out]; omega)
        have H2 := Lib.hid h2
        clear h2
        by_cases h3 : 5000 < p.size
        · go_wp2_with fail
          refine (awake_any _ Hm.out h0).mono ?_
          rintro e w1 ⟨rfl, hb1⟩
          go_wp2_with fail
          go_ret
          exact ⟨rfl, hb1⟩
        · by_cases h4 : 5000 < q.size
          · go_wp2_with fail
            refine (awake_any _ Hm.out h0).mono ?_
            rintro e w1 ⟨rfl, hb1⟩
            go_wp2_with fail
            go_ret
            exact ⟨rfl, hb1⟩
          · have Hjoin := Lib.hid (termsF_join p ⟨#[32]⟩ q rfl Hev.out)
            have Hlp := Lib.hid (termsF_len p)
            have Hlq := Lib.hid (termsF_len q)
            have zc : (p ++ ⟨#[32]⟩ ++ q).size ≤ 10001 := by rw [ByteArray.size_append, ByteArray.size_append]; show p.size + 1 + q.size ≤ 10001; omega
            have zc1 : (p ++ (⟨#[32]⟩ : ByteArray)).size ≤ 5001 := by rw [ByteArray.size_append]; show p.size + 1 ≤ 5001; omega
            obtain ⟨tp, htp⟩ : ∃ tp, termsF p = tp := ⟨_, rfl⟩
            obtain ⟨tq, htq⟩ : ∃ tq, termsF q = tq := ⟨_, rfl⟩
            rw [htp, htq] at Hjoin
            rw [htp] at Hlp
            rw [htq] at Hlq
            have Htp := Lib.hid htp
            have Htq := Lib.hid htq
            clear htp htq
            obtain ⟨m, hm1⟩ : ∃ m, tp.length = m := ⟨_, rfl⟩
            obtain ⟨r, hr1⟩ : ∃ r, tq.length = r := ⟨_, rfl⟩
            rw [hm1] at Hlp
            rw [hr1] at Hlq
            have Hm1 := Lib.hid hm1
            have Hr1 := Lib.hid hr1
            clear hm1 hr1
            go_wp2_with fail
            refine (awake_any _ Hm.out h0).mono ?_
            rintro e w1 ⟨rfl, hb1⟩
            have z1 : w.heap.size ≤ w1.heap.size := hb1.size
            have HB1 := Lib.hid hb1
            clear hb1
            go_wp2_with fail
            refine (terms_at _ (by omega) _ (m + r) Hjoin.out (by rw [List.length_append, Hm1.out, Hr1.out]) _).mono ?_
            rintro e w2 ⟨A2, c2, rfl, ho2, hb2⟩
            have z2 : w1.heap.size ≤ w2.heap.size := hb2.size
            have HB2 := Lib.hid (HB1.out.trans (hb2.mono (by omega)))
            have Hr2 := Lib.hid (Rd.of_own ho2)
            clear hb2 ho2
            go_wp2_with fail
            refine (terms_at p (by omega) _ m Htp.out Hm1.out _).mono ?_
            rintro e w3 ⟨A3, c3, rfl, ho3, hb3⟩
            have z3 : w2.heap.size ≤ w3.heap.size := hb3.size
            have HB3 := Lib.hid (HB2.out.trans (hb3.mono (by omega)))
            have Hr23 := Lib.hid (Hr2.out.below hb3)
            have Ho3 := Lib.hid ho3
            clear hb3 ho3
            go_wp2_with fail
            refine (terms_at q (by omega) _ r Htq.out Hr1.out _).mono ?_
            rintro e w4 ⟨A4, c4, rfl, ho4, hb4⟩
            have z4 : w3.heap.size ≤ w4.heap.size := hb4.size
            have HB4 := Lib.hid (HB3.out.trans (hb4.mono (by omega)))
            have Hr24 := Lib.hid (Hr23.out.below (hb4.mono (by omega)))
            have Ho34 := Lib.hid (own_below Ho3.out hb4 (Nat.le_refl _))
            have Hr4 := Lib.hid (Rd.of_own ho4)
            clear hb4 ho4
            have hlp := Hlp.out
            have hlq := Hlq.out
            go_wp2_with (at_builtin; refine wpList_strike (by simp [Region.wanted, yielded]) ?_; refine wpList_app _ rfl _ _ 26 9 rfl w2.heap.size _ 16 Try.underlying26 info9 rfl _ m _ rfl Ho34.out w4.heap.size _ r _ (tq.map Value.string) rfl Hr4.out ?c2 (one_str tq) ?c3 ?c4 ?c5 ?_)
            case c2 => rw [List.length_map]; exact Hr1.out
            case c3 => omega
            case c4 => first | omega | (simp only [maxLen]; omega)
            case c5 => omega
            intro v' w5 hown5 hgrow
            have hb5 : Below w2.heap.size w4 w5 := Below.own (Below.refl _ _) Ho34.out hgrow (by omega) (Nat.le_refl _)
            have z5 : w4.heap.size ≤ w5.heap.size := hb5.size
            have HB5 := Lib.hid (HB4.out.trans (hb5.mono (by omega)))
            have Hr25 := Lib.hid ((Hr24.out.below hb5).mono (B' := w5.heap.size) (by omega))
            obtain ⟨A5, c5, rfl⟩ := own_form hown5
            have Hr5 := Lib.hid (Rd.of_own hown5)
            have Hlen : Hid ((tp ++ tq).length = m + r) := Lib.hid (by rw [List.length_append, Hm1.out, Hr1.out])
            have Hmap : Hid (tp.map Value.string ++ tq.map Value.string = (tp ++ tq).map Value.string) := Lib.hid (by rw [List.map_append])
            clear hown5 hgrow hb5
            go_wp2_with fail
            refine (same_any _ _ _ _ _ _ w5.heap.size (tp ++ tq) (tp ++ tq) _ Hr25.out (by rw [← Hmap.out]; exact Hr5.out) Hlen.out Hlen.out (by omega) (by omega)).mono ?_
            rintro e w6 ⟨rfl, hd6⟩
            have HB6 := Lib.hid (HB5.out.trans (hd6.below (B := w.heap.size)))
            clear hd6
            rw [decide_eq_true (rfl : tp ++ tq = tp ++ tq)]
            go_wp2_with fail
            go_ret
            exact ⟨rfl, HB6.out⟩
      · have b2 : (((N : Int) % 2) != 0) = true := by rw [h2]; rfl
        clear h2
        go_wp2_with fail
        refine (awake_any _ Hm.out h0).mono ?_
        rintro e w1 ⟨rfl, hb1⟩
        go_wp2_with fail
        go_ret
        exact ⟨rfl, hb1⟩
end Go.Proofs.Ytebfnglhbfkkdaa
