import Derived.Test.YtebfnglhbfkkdaaDoorW8
namespace Go.Proofs.YtebfnglhbfkkdaaDoor
open Go.RowKit Go.Shelf

/-- a is the first place of the byte 58 from j on; -1: there is none -/
def First (s : ByteArray) (j : Nat) (a : Int) : Prop := (a = -1 ∧ NoC s 58 j s.size) ∨ ∃ p : Nat, a = p ∧ j ≤ p ∧ ∃ hp : p < s.size, s[p]'hp = 58 ∧ NoC s 58 j p
theorem First.hit (s : ByteArray) (n : Nat) (h : n < s.size) (hx : ((s[n]'h).toNat : Int) = 58) : First s n n :=
  .inr ⟨n, rfl, Nat.le_refl _, h, UInt8.toNat_inj.1 (by have : (58 : UInt8).toNat = 58 := rfl; omega), NoC.nil _ _ _⟩
theorem First.back {s : ByteArray} {n : Nat} {a : Int} (h : n < s.size) (hx : ((s[n]'h).toNat : Int) ≠ 58) (hf : First s (n + 1) a) : First s n a := by
  have step : ∀ e, NoC s 58 (n + 1) e → NoC s 58 n e := fun e hn j hj h1 h2 => by
    by_cases hje : j = n
    · subst hje; intro hc; rw [hc] at hx; exact hx rfl
    · exact hn j hj (by omega) h2
  rcases hf with ⟨ha, hn⟩ | ⟨p, ha, hp, hps, hc, hn⟩
  · exact .inl ⟨ha, step _ hn⟩
  · exact .inr ⟨p, ha, by omega, hps, hc, step _ hn⟩
theorem First.idx {s : ByteArray} {a : Int} (h : First s 0 a) : Lib.indexByte s.data.toList 58 = a := by
  have hl : s.data.toList.length = s.size := by simp
  rcases h with ⟨rfl, hn⟩ | ⟨p, rfl, _, hp, hc, hn⟩
  · apply indexByte_not
    have := noC_list hn
    rwa [List.drop_zero, Nat.sub_zero, List.take_of_length_le (by omega)] at this
  · have h1 : s.data.toList = (s.data.toList.take p) ++ 58 :: s.data.toList.drop (p + 1) := by
      conv => lhs; rw [← List.take_append_drop p s.data.toList]
      rw [List.drop_eq_getElem_cons (by omega : p < s.data.toList.length)]
      have : s.data.toList[p]'(by omega) = s[p]'hp := rfl
      rw [this, hc]
    have h2 := noC_list hn
    rw [List.drop_zero, Nat.sub_zero] at h2
    have h3 := indexByte_app 58 (s.data.toList.drop (p + 1)) (s.data.toList.take p) h2
    rw [← h1] at h3
    rw [h3, List.length_take]
    omega

theorem uri_bad1 (s : ByteArray) (p : Nat) (h : Lib.indexByte s.data.toList 58 = p) (j : Nat) (hj : j < s.size) (hjp : j < p) (hb : schCh ((s[j]'hj).toNat : Int) = false) : uriF s = false := by
  rw [uri_hit s p h]
  have : allF schCh (s.extract 0 p) = false := by
    cases hc : allF schCh (s.extract 0 p) with
    | false => rfl
    | true => rw [allF_ext] at hc; rw [hc j hj (Nat.zero_le _) hjp] at hb; cases hb
  rw [this]; simp
theorem uri_bad2 (s : ByteArray) (p : Nat) (hps : p < s.size) (h : Lib.indexByte s.data.toList 58 = p) (hp58 : s[p]'hps = 58) (j : Nat) (hj : j < s.size) (hb : restCh ((s[j]'hj).toNat : Int) = false) : uriF s = false := by
  rcases Nat.lt_trichotomy j p with hjp | hjp | hjp
  · have hbd := byte_bd s j hj
    refine uri_bad1 s p h j hj hjp ?_
    cases hc : schCh ((s[j]'hj).toNat : Int) with
    | false => rfl
    | true => rw [sch_rest _ hbd.1 hbd.2 hc] at hb; cases hb
  · subst hjp
    rw [hp58] at hb
    exact absurd rest_58 (by rw [show ((58 : UInt8).toNat : Int) = 58 from rfl] at hb; rw [hb]; decide)
  · rw [uri_hit s p h]
    have : allF restCh (s.extract (p + 1) s.size) = false := by
      cases hc : allF restCh (s.extract (p + 1) s.size) with
      | false => rfl
      | true => rw [allF_ext] at hc; rw [hc j hj (by omega) (by omega)] at hb; cases hb
    rw [this]; simp
theorem uri_good (s : ByteArray) (p : Nat) (h : Lib.indexByte s.data.toList 58 = p) (h1 : 0 < p) (h2 : p + 1 < s.size) (hs : 0 < s.size) (hl : letF ((s[0]'hs).toNat : Int) = true)
    (ha : ∀ j (hj : j < s.size), (j < p → schCh ((s[j]'hj).toNat : Int) = true) ∧ restCh ((s[j]'hj).toNat : Int) = true) : uriF s = true := by
  rw [uri_hit s p h, decide_eq_true (by omega), head_ext letF s p h1 hs, hl, (allF_ext schCh s 0 p).2 (fun j hj _ h => (ha j hj).1 h), (allF_ext restCh s (p + 1) s.size).2 (fun j hj _ _ => (ha j hj).2)]
  rfl
theorem uri_head (s : ByteArray) (p : Nat) (h : Lib.indexByte s.data.toList 58 = p) (h1 : 0 < p) (hs : 0 < s.size) (hl : letF ((s[0]'hs).toNat : Int) = false) : uriF s = false := by
  rw [uri_hit s p h, head_ext letF s p h1 hs, hl]; simp
theorem uri_ends (s : ByteArray) (p : Nat) (h : Lib.indexByte s.data.toList 58 = p) (h1 : ¬ (1 ≤ p ∧ p + 1 < s.size)) : uriF s = false := by
  rw [uri_hit s p h, decide_eq_false h1]; rfl

set_option maxHeartbeats 4000000 in
theorem ruri_any (s : ByteArray) (hs : s.size ≤ 140737488355328) (w : World) : Calls Tryd.prog 14 #[.string s] w fun e w' => e = .returned (.bool (uriF s)) ∧ w = w' := by
  have Hch : Hid (∀ x, schCh x = (letF x || digF x || inC schL x)) := Lib.hid (fun _ => rfl)
  have Hrc : Hid (∀ x, restCh x = (decide (32 < x) && decide (x < 127) && !inC badL x)) := Lib.hid (fun _ => rfl)
  go_enter Tryd.func14, Tryd.ntmps14
  go_wp2_with fail
  go_loopw [3, 4] (fun t3 t4 wr => ∃ (i a : Int), -1 ≤ i ∧ i < s.size ∧ t4 = .int .i64 i ∧ t3 = .int .i64 a ∧ Hid (First s (i + 1).toNat a) ∧ w = wr) (fun _ t4 _ => (intOf t4 + 1).toNat)
  case atStart => exact ⟨(s.size : Int) - 1, -1, by omega, by omega, rfl, rfl, Lib.hid (.inl ⟨rfl, by rw [show ((s.size : Int) - 1 + 1).toNat = s.size by omega]; exact NoC.nil _ _ _⟩), rfl⟩
  case round =>
    obtain ⟨i, a, hi1, hi2, rfl, rfl, Hf, rfl⟩ := hrel
    by_cases hi : i = -1
    · subst hi
      have Hix : Hid (Lib.indexByte s.data.toList 58 = a) := Lib.hid (First.idx Hf.out)
      have Hf0 : Hid (First s 0 a) := Lib.hid Hf.out
      clear Hf
      rcases Hf0.out with ⟨rfl, _⟩ | ⟨p, rfl, _, hps, hp58, _⟩
      · have Hr := Lib.hid (uri_miss s Hix.out)
        go_wp2_with fail
        go_ret
        exact ⟨ret_bool Hr.out.symm, rfl⟩
      · have Hp58 := Lib.hid hp58
        clear Hf0 hp58
        rcases (by omega : p = 0 ∨ (0 < p ∧ p + 1 = s.size) ∨ (0 < p ∧ p + 1 < s.size)) with h | ⟨h, h'⟩ | ⟨h, h'⟩
        · have Hr := Lib.hid (uri_ends s p Hix.out (by omega))
          subst h
          go_wp2_with fail
          go_ret
          exact ⟨ret_bool Hr.out.symm, rfl⟩
        · have Hr := Lib.hid (uri_ends s p Hix.out (by omega))
          have b1 : ((p : Int) == (s.size : Int) - 1) = true := beq_iff_eq.2 (by omega)
          clear h'
          go_wp2_with fail
          go_ret
          exact ⟨ret_bool Hr.out.symm, rfl⟩
        · have b1 : ((p : Int) == (s.size : Int) - 1) = false := beq_eq_false_iff_ne.2 (by omega)
          have d1 : decide ((p : Int) < 1) = false := decide_eq_false (by omega)
          have hpos : 0 < s.size := by omega
          have HB0 := Lib.hid (byte_bd s 0 hpos)
          go_wp2_with fail
          refine (rletter_any _ HB0.out.1 HB0.out.2 _).mono ?_
          rintro e w1 ⟨rfl, rfl⟩
          cases hl : letF ((s[0]'hpos).toNat : Int) with
          | false =>
            have Hr := Lib.hid (uri_head s p Hix.out h hpos hl)
            go_wp2_with fail
            go_ret
            exact ⟨ret_bool Hr.out.symm, rfl⟩
          | true =>
            have Hgood := Lib.hid (uri_good s p Hix.out h h' hpos hl)
            clear hl HB0
            go_wp2_with fail
            go_loopw [5] (fun t5 wr => ∃ k : Nat, k ≤ s.size ∧ t5 = .int .i64 k ∧ Hid (∀ j (hj : j < s.size), j < k → (j < p → schCh ((s[j]'hj).toNat : Int) = true) ∧ restCh ((s[j]'hj).toNat : Int) = true) ∧ w = wr) (fun t5 _ => s.size - (intOf t5).toNat)
            case atStart => exact ⟨0, Nat.zero_le _, rfl, Lib.hid (fun j hj h => by omega), rfl⟩
            case round =>
              obtain ⟨k, hk, rfl, Hall, rfl⟩ := hrel
              by_cases hlt : k < s.size
              · have HB := Lib.hid (byte_bd s k hlt)
                have Hb1 := Lib.hid (uri_bad1 s p Hix.out k hlt)
                have Hb2 := Lib.hid (uri_bad2 s p hps Hix.out Hp58.out k hlt)
                have Hchk := Lib.hid (Hch.out ((s[k]'hlt).toNat : Int))
                have Hrck := Lib.hid (Hrc.out ((s[k]'hlt).toNat : Int))
                have Hsi := Lib.hid (sch_in _ HB.out.1 HB.out.2)
                have Hstep : Hid ((k < p → schCh ((s[k]'hlt).toNat : Int) = true) → restCh ((s[k]'hlt).toNat : Int) = true → ∀ j (hj : j < s.size), j < k + 1 → (j < p → schCh ((s[j]'hj).toNat : Int) = true) ∧ restCh ((s[j]'hj).toNat : Int) = true) := Lib.hid (fun h1 h2 j hj hjk => by
                  by_cases hjk2 : j = k
                  · subst hjk2; exact ⟨h1, h2⟩
                  · exact Hall.out j hj (by omega))
                clear Hall
                have hx0 : (0 : Int) ≤ ((s[k]'hlt).toNat : Int) := HB.out.1
                have hx1 : ((s[k]'hlt).toNat : Int) ≤ 255 := HB.out.2
                go_upto_region 13 with (fail)
                generalize ((s[k]'hlt).toNat : Int) = x at *
                go_cut [67] (fun s67 wx => s67 = .bool (decide (k < p) && !schCh x) ∧ w = wx)
                case first =>
                  by_cases hkp : k < p
                  · go_wp2_with fail
                    refine (rletter_any x hx0 hx1 _).mono ?_
                    rintro e w1 ⟨rfl, rfl⟩
                    cases hl : letF x with
                    | true =>
                      have HX : Hid (schCh x = true) := Lib.hid (by rw [Hchk.out, hl]; rfl)
                      go_wp2_with fail
                      go_meet
                      exact ⟨by rw [HX.out, decide_eq_true hkp]; rfl, rfl⟩
                    | false =>
                      rw [hl] at Hchk
                      go_wp2_with fail
                      refine (rdigit_any x hx0 hx1 _).mono ?_
                      rintro e w1 ⟨rfl, rfl⟩
                      cases hd : digF x with
                      | true =>
                        have HX : Hid (schCh x = true) := Lib.hid (by rw [Hchk.out, hd]; rfl)
                        go_wp2_with fail
                        go_meet
                        exact ⟨by rw [HX.out, decide_eq_true hkp]; rfl, rfl⟩
                      | false =>
                        rw [hd, Hsi.out] at Hchk
                        rcases (by omega : x = 43 ∨ x = 45 ∨ x = 46 ∨ (x ≠ 43 ∧ x ≠ 45 ∧ x ≠ 46)) with h | h | h | ⟨h1, h2, h3⟩
                        · have HX : Hid (schCh x = true) := Lib.hid (by rw [Hchk.out, h]; rfl)
                          have n1 : (x != 43) = false := by rw [h]; rfl
                          clear h
                          go_wp2_with fail
                          go_meet
                          exact ⟨by rw [HX.out, decide_eq_true hkp]; rfl, rfl⟩
                        · have HX : Hid (schCh x = true) := Lib.hid (by rw [Hchk.out, h]; rfl)
                          have n1 : (x != 43) = true := by rw [h]; rfl
                          have n2 : (x != 45) = false := by rw [h]; rfl
                          clear h
                          go_wp2_with fail
                          go_meet
                          exact ⟨by rw [HX.out, decide_eq_true hkp]; rfl, rfl⟩
                        · have HX : Hid (schCh x = true) := Lib.hid (by rw [Hchk.out, h]; rfl)
                          have n1 : (x != 43) = true := by rw [h]; rfl
                          have n2 : (x != 45) = true := by rw [h]; rfl
                          have n3 : (x != 46) = false := by rw [h]; rfl
                          clear h
                          go_wp2_with fail
                          go_meet
                          exact ⟨by rw [HX.out, decide_eq_true hkp]; rfl, rfl⟩
                        · have HX : Hid (schCh x = false) := Lib.hid (by rw [Hchk.out, beq_eq_false_iff_ne.2 h1, beq_eq_false_iff_ne.2 h2, beq_eq_false_iff_ne.2 h3]; rfl)
                          have n1 : (x != 43) = true := bne_iff_ne.2 h1
                          have n2 : (x != 45) = true := bne_iff_ne.2 h2
                          have n3 : (x != 46) = true := bne_iff_ne.2 h3
                          clear h1 h2 h3
                          go_wp2_with fail
                          go_meet
                          exact ⟨by rw [HX.out, decide_eq_true hkp]; rfl, rfl⟩
                  · go_wp2_with fail
                    go_meet
                    exact ⟨by rw [decide_eq_false hkp]; rfl, rfl⟩
                case rest =>
                  obtain ⟨h67, rfl⟩ := hcut
                  cases hb : (decide (k < p) && !schCh x) with
                  | true =>
                    rw [hb] at h67
                    subst h67
                    rw [Bool.and_eq_true, decide_eq_true_eq, Bool.not_eq_true'] at hb
                    have Hr := Lib.hid (Hb1.out hb.1 hb.2)
                    clear hb
                    go_wp2_with fail
                    go_ret
                    exact ⟨ret_bool Hr.out.symm, rfl⟩
                  | false =>
                    rw [hb] at h67
                    subst h67
                    have Hk1 : Hid (k < p → schCh x = true) := Lib.hid (fun h => by
                      rw [decide_eq_true h, Bool.true_and, Bool.not_eq_false'] at hb
                      exact hb)
                    clear hb
                    go_upto_region 15 with (fail)
                    go_cut [77] (fun s77 wx => s77 = .bool (!restCh x) ∧ w = wx)
                    case first =>
                      rcases (by omega : x < 33 ∨ 126 < x ∨ (33 ≤ x ∧ x ≤ 126)) with h | h | ⟨h, h'⟩
                      · have HX : Hid (restCh x = false) := Lib.hid (by rw [Hrck.out, decide_eq_false (by omega)]; rfl)
                        go_wp2_with fail
                        go_meet
                        exact ⟨by rw [HX.out]; rfl, rfl⟩
                      · have HX : Hid (restCh x = false) := Lib.hid (by rw [Hrck.out, decide_eq_false (by omega : ¬ x < 127), Bool.and_false]; rfl)
                        go_wp2_with fail
                        go_meet
                        exact ⟨by rw [HX.out]; first | rfl | (simp; omega), rfl⟩
                      · have HX : Hid (restCh x = !inC badL x) := Lib.hid (by rw [Hrck.out, decide_eq_true (by omega), decide_eq_true (by omega)]; rfl)
                        go_wp2_with fail
                        refine (has_any ⟨#[34, 60, 62, 92, 94, 96, 123, 124, 125]⟩ x hx0 hx1 (by decide) _).mono ?_
                        rintro e w1 ⟨rfl, rfl⟩
                        have hin : inC (⟨#[34, 60, 62, 92, 94, 96, 123, 124, 125]⟩ : ByteArray).data.toList x = !restCh x := by rw [HX.out, Bool.not_not]; rfl
                        rw [hin]
                        clear hin
                        go_wp2_with fail
                        go_meet
                        exact ⟨by rw [decide_eq_false (by omega : ¬ x < 33), decide_eq_false (by omega : ¬ 126 < x)]; rfl, rfl⟩
                    case rest =>
                      obtain ⟨h77, rfl⟩ := hcut
                      cases hr : restCh x with
                      | false =>
                        rw [hr] at h77
                        obtain rfl : u77 = .bool true := h77
                        have Hr := Lib.hid (Hb2.out hr)
                        go_wp2_with fail
                        go_ret
                        exact ⟨ret_bool Hr.out.symm, rfl⟩
                      | true =>
                        rw [hr] at h77
                        obtain rfl : u77 = .bool false := h77
                        have Hall2 := Lib.hid (Hstep.out Hk1.out hr)
                        clear hr
                        go_wp2_with fail
                        go_roundw
                        case rel => exact ⟨k + 1, by omega, by go_num, Hall2, trivial⟩
                        case measure => simp [intOf]; omega
              · have Hr := Lib.hid (Hgood.out (fun j hj => Hall.out j hj (by omega)))
                go_wp2_with fail
                go_ret
                exact ⟨ret_bool Hr.out.symm, rfl⟩
    · obtain ⟨n, rfl⟩ : ∃ n : Nat, i = n := ⟨i.toNat, by omega⟩
      have hn : n < s.size := by omega
      have Hf1 : Hid (First s (n + 1) a) := Lib.hid Hf.out
      clear Hf hi
      by_cases hx : ((s[n]'hn).toNat : Int) = 58
      · have Hf2 : Hid (First s ((n : Int) - 1 + 1).toNat n) := Lib.hid (by rw [show ((n : Int) - 1 + 1).toNat = n by omega]; exact First.hit s n hn hx)
        have b1 : (((s[n]'hn).toNat : Int) == 58) = true := beq_iff_eq.2 hx
        clear hx
        go_wp2_with fail
        go_roundw
        case rel => exact ⟨(n : Int) - 1, n, by omega, by omega, rfl, rfl, Hf2, trivial⟩
        case measure => simp [intOf]
      · have Hf2 : Hid (First s ((n : Int) - 1 + 1).toNat a) := Lib.hid (by rw [show ((n : Int) - 1 + 1).toNat = n by omega]; exact First.back hn hx Hf1.out)
        have b1 : (((s[n]'hn).toNat : Int) == 58) = false := beq_eq_false_iff_ne.2 hx
        clear hx
        go_wp2_with fail
        go_roundw
        case rel => exact ⟨(n : Int) - 1, a, by omega, by omega, rfl, rfl, Hf2, trivial⟩
        case measure => simp [intOf]
end Go.Proofs.YtebfnglhbfkkdaaDoor
