import Derived.Test.YtebfnglhbfkkdaaDoorW2
import Derived.Deep.RegionWith
import Derived.Deep.DeepCutAuto
import Derived.Deep.CutBlock
namespace Go.Proofs.YtebfnglhbfkkdaaDoor
open Go.RowKit Go.Shelf

set_option maxHeartbeats 1000000 in
theorem rname_any (s : ByteArray) (hs : s.size ≤ 140737488355328) (w : World) : Calls Tryd.prog 22 #[.string s] w fun e w' => e = .returned (.bool (nameF s)) ∧ w = w' := by
  rcases (by omega : s.size < 1 ∨ 127 < s.size ∨ (0 < s.size ∧ s.size ≤ 127)) with h | h | ⟨h, h'⟩
  · have Hr := Lib.hid (nameF_len s (by omega))
    have h0 : s.size = 0 := by omega
    have b0 : ((s.size : Int) == 0) = true := by rw [h0]; rfl
    clear h0
    go_enter Tryd.func22, Tryd.ntmps22
    go_wp2_with fail
    go_ret
    exact ⟨ret_bool Hr.out.symm, rfl⟩
  · have Hr := Lib.hid (nameF_len s (by omega))
    have b0 : ((s.size : Int) == 0) = false := beq_eq_false_iff_ne.2 (by omega)
    go_enter Tryd.func22, Tryd.ntmps22
    go_wp2_with fail
    go_ret
    exact ⟨ret_bool Hr.out.symm, rfl⟩
  · have Hr := Lib.hid (nameF_in s h h')
    have HB := Lib.hid (byte_bd s 0 h)
    have Hbo : Hid (∀ x, botF x = (letF x || digF x)) := Lib.hid (fun _ => rfl)
    have Hch : Hid (∀ x, nameCh x = (letF x || digF x || inC nameL x)) := Lib.hid (fun _ => rfl)
    have b0 : ((s.size : Int) == 0) = false := beq_eq_false_iff_ne.2 (by omega)
    have d1 : decide (127 < (s.size : Int)) = false := decide_eq_false (by omega)
    have Hhead : Hid (botF ((s[0]'h).toNat : Int) = (letF ((s[0]'h).toNat : Int) || digF ((s[0]'h).toNat : Int))) := Lib.hid rfl
    go_enter Tryd.func22, Tryd.ntmps22
    go_upto_region 1 with (fail)
    go_cut [23] (fun s23 wx => s23 = .bool (!botF ((s[0]'h).toNat : Int)) ∧ w = wx)
    case first =>
      go_wp2_with fail
      refine (rletter_any _ HB.out.1 HB.out.2 _).mono ?_
      rintro e w1 ⟨rfl, rfl⟩
      cases hl : letF ((s[0]'h).toNat : Int) with
      | true =>
        have Hx : Hid (botF ((s[0]'h).toNat : Int) = true) := Lib.hid (by rw [Hhead.out, hl]; rfl)
        go_wp2_with fail
        go_meet
        exact ⟨by rw [Hx.out]; first | rfl | simp, rfl⟩
      | false =>
        have Hx : Hid (botF ((s[0]'h).toNat : Int) = digF ((s[0]'h).toNat : Int)) := Lib.hid (by rw [Hhead.out, hl]; rfl)
        go_wp2_with fail
        refine (rdigit_any _ HB.out.1 HB.out.2 _).mono ?_
        rintro e w1 ⟨rfl, rfl⟩
        go_wp2_with fail
        go_meet
        exact ⟨by rw [Hx.out], rfl⟩
    case rest =>
      obtain ⟨h23, rfl⟩ := hcut
      cases hb : botF ((s[0]'h).toNat : Int) with
      | false =>
        rw [hb] at Hr h23
        obtain rfl : u23 = .bool true := h23
        have Hr2 : Hid (nameF s = false) := Lib.hid (by rw [Hr.out]; rfl)
        go_wp2_with fail
        go_ret
        exact ⟨ret_bool Hr2.out.symm, rfl⟩
      | true =>
        rw [hb] at Hr h23
        obtain rfl : u23 = .bool false := h23
        have Hr2 : Hid (nameF s = allF nameCh s) := Lib.hid (by rw [Hr.out]; rfl)
        clear Hr hb Hhead HB
        go_wp2_with fail
        go_loopw [3] (fun i wr => ∃ k : Nat, k ≤ s.size ∧ i = .int .i64 k ∧ Hid (((nums s).take k).all nameCh = true) ∧ w = wr) (fun i _ => s.size - (intOf i).toNat)
        case atStart => exact ⟨0, Nat.zero_le _, rfl, Lib.hid (by simp), rfl⟩
        case round =>
          obtain ⟨k, hk, rfl, Hn, rfl⟩ := hrel
          by_cases hlt : k < s.size
          · have Hst := Lib.hid (all_step s nameCh k hlt)
            have Hmiss := Lib.hid (all_miss s nameCh k hlt)
            have HB := Lib.hid (byte_bd s k hlt)
            have Hchk := Lib.hid (Hch.out ((s[k]'hlt).toNat : Int))
            go_wp2_with fail
            refine (rletter_any _ HB.out.1 HB.out.2 _).mono ?_
            rintro e w1 ⟨rfl, rfl⟩
            cases hl : letF ((s[k]'hlt).toNat : Int) with
            | true =>
              have Hn2 : Hid (((nums s).take (k + 1)).all nameCh = true) := Lib.hid (by rw [Hst.out, Hn.out, Hchk.out, hl]; rfl)
              go_wp2_with fail
              go_roundw
              case rel => exact ⟨k + 1, by omega, by go_num, Hn2, trivial⟩
              case measure => simp [intOf]; omega
            | false =>
              rw [hl] at Hchk
              go_wp2_with fail
              refine (rdigit_any _ HB.out.1 HB.out.2 _).mono ?_
              rintro e w1 ⟨rfl, rfl⟩
              cases hd : digF ((s[k]'hlt).toNat : Int) with
              | true =>
                have Hn2 : Hid (((nums s).take (k + 1)).all nameCh = true) := Lib.hid (by rw [Hst.out, Hn.out, Hchk.out, hd]; rfl)
                go_wp2_with fail
                go_roundw
                case rel => exact ⟨k + 1, by omega, by go_num, Hn2, trivial⟩
                case measure => simp [intOf]; omega
              | false =>
                rw [hd] at Hchk
                go_wp2_with fail
                refine (has_any ⟨#[33, 35, 36, 38, 45, 94, 95, 46, 43]⟩ _ HB.out.1 HB.out.2 (by decide) _).mono ?_
                rintro e w1 ⟨rfl, rfl⟩
                have hin : inC (⟨#[33, 35, 36, 38, 45, 94, 95, 46, 43]⟩ : ByteArray).data.toList ((s[k]'hlt).toNat : Int) = nameCh ((s[k]'hlt).toNat : Int) := by rw [Hchk.out]; rfl
                rw [hin]
                clear hin
                cases hc : nameCh ((s[k]'hlt).toNat : Int) with
                | true =>
                  have Hn2 : Hid (((nums s).take (k + 1)).all nameCh = true) := Lib.hid (by rw [Hst.out, Hn.out, hc]; rfl)
                  go_wp2_with fail
                  go_roundw
                  case rel => exact ⟨k + 1, by omega, by go_num, Hn2, trivial⟩
                  case measure => simp [intOf]; omega
                | false =>
                  have Hres := Lib.hid (Hmiss.out hc)
                  go_wp2_with fail
                  go_ret
                  exact ⟨ret_bool (by rw [Hr2.out, Hres.out]), rfl⟩
          · have Hres : Hid (allF nameCh s = true) := Lib.hid (by
              have := Hn.out
              rwa [List.take_of_length_le (by rw [nums_len]; omega)] at this)
            go_wp2
            go_ret
            exact ⟨ret_bool (by rw [Hr2.out, Hres.out]), rfl⟩

/-! ### where a byte first stands -/
theorem idx_cases (s : ByteArray) (c : UInt8) : (Lib.indexByte s.data.toList c = -1 ∧ c ∉ s.data.toList) ∨ ∃ k : Nat, Lib.indexByte s.data.toList c = k ∧ k < s.size ∧ ∃ u v, s.data.toList = u ++ c :: v ∧ c ∉ u ∧ u.length = k := by
  by_cases h : c ∈ s.data.toList
  · right
    obtain ⟨u, v, e, hu⟩ := List.eq_append_cons_of_mem h
    refine ⟨u.length, by rw [e]; exact indexByte_app c v u hu, ?_, u, v, e, hu, rfl⟩
    have hl : s.data.toList.length = s.size := by simp
    rw [e] at hl
    simp at hl
    omega
  · exact .inl ⟨indexByte_not c _ h, h⟩

set_option maxHeartbeats 400000 in
theorem scut_miss (s : ByteArray) (c : UInt8) (h : Lib.indexByte s.data.toList c = -1) (w : World) :
    Calls Tryd.prog 34 #[.string s, .string ⟨#[c]⟩] w fun e w' => e = .returned (.tuple #[.string s, .string ⟨#[]⟩, .bool false]) ∧ Dr w w' := by
  have H := Lib.hid (Tryd.stringslite_Index_one s c w)
  rw [h] at H
  go_enter Tryd.func34, Tryd.ntmps34
  go_wp2_with fail
  refine H.out.mono ?_
  rintro e w1 ⟨rfl, rfl⟩
  go_wp2_with fail
  go_ret3
  exact ⟨rfl, Dr.refl _⟩
set_option maxHeartbeats 400000 in
theorem scut_hit (s : ByteArray) (c : UInt8) (k : Nat) (h : Lib.indexByte s.data.toList c = k) (hk : k < s.size) (hs : s.size ≤ 140737488355328) (w : World) :
    Calls Tryd.prog 34 #[.string s, .string ⟨#[c]⟩] w fun e w' => e = .returned (.tuple #[.string (s.extract 0 k), .string (s.extract (k + 1) s.size), .bool true]) ∧ Dr w w' := by
  have H := Lib.hid (Tryd.stringslite_Index_one s c w)
  rw [h] at H
  clear h
  have hz : (⟨#[c]⟩ : ByteArray).size = 1 := rfl
  go_enter Tryd.func34, Tryd.ntmps34
  go_wp2_with fail
  refine H.out.mono ?_
  rintro e w1 ⟨rfl, rfl⟩
  go_wp2_with fail
  have hw1 : IntKind.i64.wrap ((k : Int) + 1) = (k : Int) + 1 := by apply IntWalk.i64_in; omega
  go_quiet (fail)
  go_wp2
  go_ret3
  exact ⟨rfl, ⟨_, rfl⟩⟩
end Go.Proofs.YtebfnglhbfkkdaaDoor
