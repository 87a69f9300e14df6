import Derived.Test.YtebfnglhbfkkdaaDoorW6
namespace Go.Proofs.YtebfnglhbfkkdaaDoor
open Go.RowKit Go.Shelf

def langF : List ByteArray → Bool
  | [] => true
  | t :: r => (decide (2 ≤ t.size) && tagF letF t) && r.all (tagF botF)
def langS (s : ByteArray) : Bool := langF (splitF s 45)
theorem all_mono {p q : Int → Bool} (h : ∀ x, p x = true → q x = true) (s : ByteArray) (hp : allF p s = true) : allF q s = true := by
  unfold allF at *
  rw [List.all_eq_true] at *
  exact fun x hx => h x (hp x hx)
theorem let_bot (x : Int) (h : letF x = true) : botF x = true := by unfold botF; rw [h]; rfl
theorem tag_let_bot (t : ByteArray) (h : tagF letF t = true) : tagF botF t = true := by
  unfold tagF at *
  rw [Bool.and_eq_true] at *
  exact ⟨h.1, all_mono let_bot t h.2⟩
theorem langF_one (xs : List ByteArray) (h : 0 < xs.length) : langF (xs.take 1) = (decide (2 ≤ xs[0].size) && tagF letF xs[0]) := by
  cases xs with
  | nil => simp at h
  | cons t r => simp [langF]
theorem langF_step (xs : List ByteArray) (k : Nat) (h0 : 0 < k) (h : k < xs.length) : langF (xs.take (k + 1)) = (langF (xs.take k) && tagF botF xs[k]) := by
  cases xs with
  | nil => simp at h
  | cons t r =>
    obtain ⟨k, rfl⟩ : ∃ j, k = j + 1 := ⟨k - 1, by omega⟩
    have hk : k < r.length := by simpa using h
    simp only [List.take_succ_cons, langF, List.getElem_cons_succ]
    rw [take_succ_eq r k hk, List.all_append, List.all_cons, List.all_nil, Bool.and_true]
    simp only [Bool.and_assoc]
theorem langF_prefix (xs : List ByteArray) (k : Nat) (h0 : 0 < k) (h : langF xs = true) : langF (xs.take k) = true := by
  cases xs with
  | nil => rw [List.take_nil]; rfl
  | cons t r =>
    obtain ⟨k, rfl⟩ : ∃ j, k = j + 1 := ⟨k - 1, by omega⟩
    simp only [List.take_succ_cons, langF, Bool.and_eq_true, List.all_eq_true] at *
    exact ⟨h.1, fun x hx => h.2 x (List.mem_of_mem_take hx)⟩
theorem langF_miss (xs : List ByteArray) (k : Nat) (h0 : 0 < k) (h : langF (xs.take k) = false) : langF xs = false := by
  cases hc : langF xs with
  | false => rfl
  | true => rw [langF_prefix xs k h0 hc] at h; cases h

set_option maxHeartbeats 1000000 in
theorem lang_any (s : ByteArray) (hl : s.size ≤ 3200000) (w : World) (hm : MaxAt w) : Calls Tryd.prog 11 #[.string s] w fun e w' => e = .returned (.bool (langS s)) ∧ Below w.heap.size w w' := by
  have HS := Lib.hid (split_any s 45 (by omega) w hm)
  have hln := splitF_len s 45
  have hcl := Lib.countB_le ⟨#[45]⟩ (Nat.le_refl 1) _ s (Nat.le_refl _)
  have Hz := Lib.hid (splitF_size s 45)
  have HL : Hid (langS s = langF (splitF s 45)) := Lib.hid rfl
  clear hm
  go_enter Tryd.func11, Tryd.ntmps11
  go_wp2_with fail
  refine HS.out.mono ?_
  rintro e w1 ⟨A, rfl, hrd, hb⟩
  have Hrd := Lib.hid hrd
  have Hb := Lib.hid hb
  clear hrd hb HS
  generalize splitF s 45 = xs at *
  obtain ⟨n, hn⟩ : ∃ n, xs.length = n := ⟨_, rfl⟩
  have hn1 : 0 < n := by omega
  have hn2 : n ≤ 4294967281 := by omega
  rw [hn]
  have Hn := Lib.hid hn
  clear hn hln hcl
  go_wp2_with fail
  go_loopw [10] (fun i wr => ∃ k : Nat, k ≤ n ∧ i = .int .i64 k ∧ Hid (langF (xs.take k) = true) ∧ w1 = wr) (fun i _ => n - (intOf i).toNat)
  case atStart => exact ⟨0, Nat.zero_le _, rfl, Lib.hid rfl, rfl⟩
  case round =>
    obtain ⟨k, hk, rfl, Ha, rfl⟩ := hrel
    by_cases hlt : k < n
    · have lx : k < xs.length := by rw [Hn.out]; exact hlt
      obtain ⟨b1, o1, rfl, _, hc⟩ := Hrd.out.at_ (by rw [List.length_map]; omega)
      have h1 := hc k (.string xs[k]) (by simp [lx])
      clear hc
      have zx := Hz.out xs[k] (List.getElem_mem lx)
      have Hmiss := Lib.hid (langF_miss xs (k + 1) (by omega))
      by_cases hk0 : k = 0
      · subst hk0
        have Hst := Lib.hid (langF_one xs lx)
        have h1' : w1.cell? ⟨b1, o1, none⟩ = some (.string xs[0]) := h1
        clear h1
        generalize xs[0] = t at *
        by_cases hs2 : t.size < 2
        · have Hf : Hid (langF xs = false) := Lib.hid (Hmiss.out (by rw [Hst.out, decide_eq_false (by omega)]; rfl))
          go_wp2_with fail
          go_ret
          exact ⟨ret_bool (by rw [HL.out, Hf.out]), Hb.out⟩
        · go_wp2_with fail
          refine (tagLet t (by omega) _).mono ?_
          rintro e w2 ⟨rfl, rfl⟩
          cases htg : tagF letF t with
          | false =>
            have Hf : Hid (langF xs = false) := Lib.hid (Hmiss.out (by rw [Hst.out, htg, Bool.and_false]))
            go_wp2_with fail
            go_ret
            exact ⟨ret_bool (by rw [HL.out, Hf.out]), Hb.out⟩
          | true =>
            have Ha2 : Hid (langF (xs.take (0 + 1)) = true) := Lib.hid (by rw [Hst.out, htg, decide_eq_true (by omega)]; rfl)
            have Htb := Lib.hid (tag_let_bot t htg)
            go_wp2_with fail
            refine (tagBoth t (by omega) _).mono ?_
            rintro e w2 ⟨rfl, rfl⟩
            rw [Htb.out]
            go_wp2_with fail
            go_roundw
            case rel => exact ⟨0 + 1, by omega, by go_num, Ha2, trivial⟩
            case measure => simp [intOf]; omega
      · have bk : ((k : Int) == 0) = false := beq_eq_false_iff_ne.2 (by omega)
        have Hst := Lib.hid (langF_step xs k (by omega) lx)
        generalize xs[k] = t at *
        go_wp2_with fail
        refine (tagBoth t (by omega) _).mono ?_
        rintro e w2 ⟨rfl, rfl⟩
        cases htg : tagF botF t with
        | false =>
          have Hf : Hid (langF xs = false) := Lib.hid (Hmiss.out (by rw [Hst.out, htg, Bool.and_false]))
          go_wp2_with fail
          go_ret
          exact ⟨ret_bool (by rw [HL.out, Hf.out]), Hb.out⟩
        | true =>
          have Ha2 : Hid (langF (xs.take (k + 1)) = true) := Lib.hid (by rw [Hst.out, htg, Ha.out]; rfl)
          go_wp2_with fail
          go_roundw
          case rel => exact ⟨k + 1, by omega, by go_num, Ha2, trivial⟩
          case measure => simp [intOf]; omega
    · have Hres : Hid (langF xs = true) := Lib.hid (by
        have := Ha.out
        rwa [show k = xs.length by rw [Hn.out]; omega, List.take_length] at this)
      go_wp2
      go_ret
      exact ⟨ret_bool (by rw [HL.out, Hres.out]), Hb.out⟩

theorem tagF_len (p : Int → Bool) (t : ByteArray) (h : ¬ (1 ≤ t.size ∧ t.size ≤ 8)) : tagF p t = false := by unfold tagF; rw [decide_eq_false h]; rfl
theorem tagF_in (p : Int → Bool) (t : ByteArray) (h : 1 ≤ t.size) (h' : t.size ≤ 8) : tagF p t = allF p t := by unfold tagF; rw [decide_eq_true ⟨h, h'⟩]; rfl

set_option maxHeartbeats 4000000 in
theorem rlang_any (s : ByteArray) (hl : s.size ≤ 3200000) (w : World) : Calls Tryd.prog 12 #[.string s] w fun e w' => e = .returned (.bool (langS s)) ∧ Below w.heap.size w w' := by
  have HS := Lib.hid (rsplit_at s 45 45 rfl hl _ _ rfl rfl w)
  have hln := splitF_len s 45
  have hcl := Lib.countB_le ⟨#[45]⟩ (Nat.le_refl 1) _ s (Nat.le_refl _)
  have Hz := Lib.hid (splitF_size s 45)
  have HL : Hid (langS s = langF (splitF s 45)) := Lib.hid rfl
  have Hbo : Hid (∀ x, botF x = (letF x || digF x)) := Lib.hid (fun _ => rfl)
  go_enter Tryd.func12, Tryd.ntmps12
  go_wp2_with fail
  refine HS.out.mono ?_
  rintro e w1 ⟨A, c1, rfl, hown, hb⟩
  have Hrd := Lib.hid (Rd.of_own hown)
  have Hb := Lib.hid hb
  clear hown hb HS
  generalize splitF s 45 = xs at *
  obtain ⟨n, hn⟩ : ∃ n, xs.length = n := ⟨_, rfl⟩
  have hn1 : 0 < n := by omega
  have hn2 : n ≤ 4294967281 := by omega
  rw [hn]
  have Hn := Lib.hid hn
  clear hn hln hcl
  go_wp2_with fail
  go_loopw [4] (fun i wr => ∃ k : Nat, k ≤ n ∧ i = .int .i64 k ∧ Hid (langF (xs.take k) = true) ∧ w1 = wr) (fun i _ => n - (intOf i).toNat)
  case atStart => exact ⟨0, Nat.zero_le _, rfl, Lib.hid rfl, rfl⟩
  case round =>
    obtain ⟨k, hk, rfl, Ha, rfl⟩ := hrel
    by_cases hlt : k < n
    · have lx : k < xs.length := by rw [Hn.out]; exact hlt
      obtain ⟨b1, o1, rfl, _, hc⟩ := Hrd.out.at_ (by rw [List.length_map]; omega)
      have h1 := hc k (.string xs[k]) (by simp [lx])
      clear hc
      have Hmiss := Lib.hid (langF_miss xs (k + 1) (by omega))
      by_cases hk0 : k = 0
      · subst hk0
        have Hst := Lib.hid (langF_one xs lx)
        have h1' : w1.cell? ⟨b1, o1, none⟩ = some (.string xs[0]) := h1
        clear h1
        generalize xs[0] = t at *
        by_cases hs2 : 2 ≤ t.size ∧ t.size ≤ 8
        · obtain ⟨z1, z2⟩ := hs2
          have Hst2 : Hid (langF (xs.take (0 + 1)) = allF letF t) := Lib.hid (by rw [Hst.out, decide_eq_true z1, tagF_in letF t (by omega) z2]; rfl)
          have b0 : ((t.size : Int) == 0) = false := beq_eq_false_iff_ne.2 (by omega)
          have b2 : ((t.size : Int) == 1) = false := beq_eq_false_iff_ne.2 (by omega)
          go_wp2_with fail
          go_loopw [5] (fun i wr => ∃ j : Nat, j ≤ t.size ∧ i = .int .i64 j ∧ Hid (((nums t).take j).all letF = true) ∧ w1 = wr) (fun i _ => t.size - (intOf i).toNat)
          case atStart => exact ⟨0, Nat.zero_le _, rfl, Lib.hid rfl, rfl⟩
          case round =>
            obtain ⟨j, hj, rfl, Hj, rfl⟩ := hrel
            by_cases hjt : j < t.size
            · have Hst3 := Lib.hid (all_step t letF j hjt)
              have Hmiss3 := Lib.hid (all_miss t letF j hjt)
              have HB := Lib.hid (byte_bd t j hjt)
              go_wp2_with fail
              refine (rletter_any _ HB.out.1 HB.out.2 _).mono ?_
              rintro e w2 ⟨rfl, rfl⟩
              cases hlj : letF ((t[j]'hjt).toNat : Int) with
              | true =>
                have Hj2 : Hid (((nums t).take (j + 1)).all letF = true) := Lib.hid (by rw [Hst3.out, Hj.out, hlj]; rfl)
                go_wp2_with fail
                go_roundw
                case rel => exact ⟨j + 1, by omega, by go_num, Hj2, trivial⟩
                case measure => simp [intOf]; omega
              | false =>
                have Hf : Hid (langF xs = false) := Lib.hid (Hmiss.out (by rw [Hst2.out, Hmiss3.out hlj]))
                go_wp2_with fail
                go_ret
                exact ⟨ret_bool (by rw [HL.out, Hf.out]), Hb.out⟩
            · have Ha2 : Hid (langF (xs.take (0 + 1)) = true) := Lib.hid (by
                rw [Hst2.out]
                have := Hj.out
                rwa [List.take_of_length_le (by rw [nums_len]; omega)] at this)
              go_wp2_with fail
              go_roundw
              case rel => exact ⟨0 + 1, by omega, by go_num, Ha2, trivial⟩
              case measure => simp [intOf]; omega
        · have Hf : Hid (langF xs = false) := Lib.hid (Hmiss.out (by
            rw [Hst.out]
            by_cases h2 : 2 ≤ t.size
            · rw [tagF_len letF t (by omega), Bool.and_false]
            · rw [decide_eq_false h2]; rfl))
          rcases (by omega : t.size = 0 ∨ t.size = 1 ∨ 8 < t.size) with h | h | h
          · have b0 : ((t.size : Int) == 0) = true := by rw [h]; rfl
            clear h hs2
            go_wp2_with fail
            go_ret
            exact ⟨ret_bool (by rw [HL.out, Hf.out]), Hb.out⟩
          · have b0 : ((t.size : Int) == 0) = false := by rw [h]; rfl
            have b2 : ((t.size : Int) == 1) = true := by rw [h]; rfl
            have d8 : decide (8 < (t.size : Int)) = false := by rw [h]; rfl
            clear h hs2
            go_wp2_with fail
            go_ret
            exact ⟨ret_bool (by rw [HL.out, Hf.out]), Hb.out⟩
          · have b0 : ((t.size : Int) == 0) = false := beq_eq_false_iff_ne.2 (by omega)
            clear hs2
            go_wp2_with fail
            go_ret
            exact ⟨ret_bool (by rw [HL.out, Hf.out]), Hb.out⟩
      · have bk : ((k : Int) == 0) = false := beq_eq_false_iff_ne.2 (by omega)
        have Hst := Lib.hid (langF_step xs k (by omega) lx)
        generalize xs[k] = t at *
        by_cases hs2 : 1 ≤ t.size ∧ t.size ≤ 8
        · obtain ⟨z1, z2⟩ := hs2
          have Hst2 : Hid (langF (xs.take (k + 1)) = allF botF t) := Lib.hid (by rw [Hst.out, Ha.out, tagF_in botF t z1 z2]; rfl)
          have b0 : ((t.size : Int) == 0) = false := beq_eq_false_iff_ne.2 (by omega)
          go_wp2_with fail
          go_loopw [5] (fun i wr => ∃ j : Nat, j ≤ t.size ∧ i = .int .i64 j ∧ Hid (((nums t).take j).all botF = true) ∧ w1 = wr) (fun i _ => t.size - (intOf i).toNat)
          case atStart => exact ⟨0, Nat.zero_le _, rfl, Lib.hid rfl, rfl⟩
          case round =>
            obtain ⟨j, hj, rfl, Hj, rfl⟩ := hrel
            by_cases hjt : j < t.size
            · have Hst3 := Lib.hid (all_step t botF j hjt)
              have Hmiss3 := Lib.hid (all_miss t botF j hjt)
              have HB := Lib.hid (byte_bd t j hjt)
              have Hch := Lib.hid (Hbo.out ((t[j]'hjt).toNat : Int))
              go_wp2_with fail
              refine (rletter_any _ HB.out.1 HB.out.2 _).mono ?_
              rintro e w2 ⟨rfl, rfl⟩
              cases hlj : letF ((t[j]'hjt).toNat : Int) with
              | true =>
                have Hj2 : Hid (((nums t).take (j + 1)).all botF = true) := Lib.hid (by rw [Hst3.out, Hj.out, Hch.out, hlj]; rfl)
                go_wp2_with fail
                go_roundw
                case rel => exact ⟨j + 1, by omega, by go_num, Hj2, trivial⟩
                case measure => simp [intOf]; omega
              | false =>
                rw [hlj] at Hch
                go_wp2_with fail
                refine (rdigit_any _ HB.out.1 HB.out.2 _).mono ?_
                rintro e w2 ⟨rfl, rfl⟩
                cases hdj : digF ((t[j]'hjt).toNat : Int) with
                | true =>
                  have Hj2 : Hid (((nums t).take (j + 1)).all botF = true) := Lib.hid (by rw [Hst3.out, Hj.out, Hch.out, hdj]; rfl)
                  go_wp2_with fail
                  go_roundw
                  case rel => exact ⟨j + 1, by omega, by go_num, Hj2, trivial⟩
                  case measure => simp [intOf]; omega
                | false =>
                  have Hf : Hid (langF xs = false) := Lib.hid (Hmiss.out (by rw [Hst2.out, Hmiss3.out (by rw [Hch.out, hdj]; rfl)]))
                  go_wp2_with fail
                  go_ret
                  exact ⟨ret_bool (by rw [HL.out, Hf.out]), Hb.out⟩
            · have Ha2 : Hid (langF (xs.take (k + 1)) = true) := Lib.hid (by
                rw [Hst2.out]
                have := Hj.out
                rwa [List.take_of_length_le (by rw [nums_len]; omega)] at this)
              go_wp2_with fail
              go_roundw
              case rel => exact ⟨k + 1, by omega, by go_num, Ha2, trivial⟩
              case measure => simp [intOf]; omega
        · have Hf : Hid (langF xs = false) := Lib.hid (Hmiss.out (by rw [Hst.out, tagF_len botF t hs2, Bool.and_false]))
          rcases (by omega : t.size = 0 ∨ 8 < t.size) with h | h
          · have b0 : ((t.size : Int) == 0) = true := by rw [h]; rfl
            clear h hs2
            go_wp2_with fail
            go_ret
            exact ⟨ret_bool (by rw [HL.out, Hf.out]), Hb.out⟩
          · have b0 : ((t.size : Int) == 0) = false := beq_eq_false_iff_ne.2 (by omega)
            clear hs2
            go_wp2_with fail
            go_ret
            exact ⟨ret_bool (by rw [HL.out, Hf.out]), Hb.out⟩
    · have Hres : Hid (langF xs = true) := Lib.hid (by
        have := Ha.out
        rwa [show k = xs.length by rw [Hn.out]; omega, List.take_length] at this)
      go_wp2
      go_ret
      exact ⟨ret_bool (by rw [HL.out, Hres.out]), Hb.out⟩
end Go.Proofs.YtebfnglhbfkkdaaDoor
