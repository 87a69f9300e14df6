import Derived.Test.YtijpbfafkdpolaaDoorS14
namespace Go.Proofs.YtijpbfafkdpolaaDoor
open Go.RowKit Go.Shelf

/-! ### the reference's part -/
theorem nine_at {s : ByteArray} (h : secOK s = true) (i : Nat) (hi : i < 9) : (nineL s).getD i 0 = (if 20 < s.size ∧ 20 + i < s.size - 1 then byteF s (20 + i) else 48) := by
  obtain ⟨h1, _, h3, h4⟩ := sec_tail h
  unfold nineL
  by_cases hc : 20 < s.size ∧ 20 + i < s.size - 1
  · rw [if_pos hc]
    have hl : i < (fracL s).length := by rw [h4]; omega
    rw [List.getD, List.getElem?_append_left hl]
    unfold fracL at hl ⊢
    rw [strN_map s 20 _ (by omega)]
    have hl2 : i < s.size - 21 := by omega
    simp [hl2]
  · rw [if_neg hc]
    have hl : (fracL s).length ≤ i := by rw [h4]; omega
    rw [List.getD, List.getElem?_append_right hl, List.getElem?_replicate]
    rw [if_pos (by rw [h4]; omega)]
    rfl
theorem take_step (l : List Int) (i : Nat) (h : i < l.length) : l.take (i + 1) = l.take i ++ [l.getD i 0] := by
  rw [List.take_succ_eq_append_getElem h]
  congr 2
  simp [List.getD, List.getElem?_eq_getElem h]
theorem part_step {s : ByteArray} (h : secOK s = true) (i : Nat) (hi : i < 9) : decF ((nineL s).take (i + 1)) = decF ((nineL s).take i) * 10 + ((if 20 < s.size ∧ 20 + i < s.size - 1 then byteF s (20 + i) else 48) - 48) ∧ 0 ≤ decF ((nineL s).take (i + 1)) ∧ decF ((nineL s).take (i + 1)) < 1000000000 := by
  obtain ⟨l1, d1⟩ := nine_facts h
  have e := take_step (nineL s) i (by omega)
  refine ⟨by rw [e, decF_app, nine_at h i hi], ?_⟩
  have hd : ((nineL s).take (i + 1)).all digB = true := by
    rw [List.all_eq_true] at d1 ⊢
    intro x hx
    exact d1 x (List.mem_of_mem_take hx)
  have hb := decF_bd _ hd
  have hl : ((nineL s).take (i + 1)).length = i + 1 := by rw [List.length_take]; omega
  rw [hl] at hb
  have := pow_bd (i + 1) (by omega)
  omega

set_option maxRecDepth 100000 in
set_option maxHeartbeats 2000000 in
theorem rpart_any (s : ByteArray) (hs : s.size ≤ 140737488355328) (hk : secOK s = true) (w : World) : Calls Tryd.prog 35 #[.string s] w fun e w' => e = .returned (.int .i64 (partV s)) ∧ w = w' := by
  have hz : 20 ≤ s.size := by have := (secOK_head hk).1; exact this
  have HST := Lib.hid (fun i hi => part_step hk i hi)
  have HE : Hid (partV s = decF ((nineL s).take 9)) := Lib.hid (by unfold partV; rw [List.take_of_length_le (by rw [(nine_facts hk).1]; exact Nat.le_refl _)])
  clear hk
  go_enter Tryd.func35, Tryd.ntmps35
  go_wp2_with fail
  go_loopw [3, 4] (fun t3 t4 wr => ∃ (i : Nat) (x : Int), i ≤ 9 ∧ t4 = .int .i64 i ∧ t3 = .int .i64 x ∧ 0 ≤ x ∧ x ≤ 1000000000 ∧ Hid (x = decF ((nineL s).take i)) ∧ w = wr) (fun _ t4 _ => 9 - (intOf t4).toNat)
  case atStart => exact ⟨0, 0, by omega, rfl, rfl, by omega, by omega, Lib.hid rfl, rfl⟩
  case round =>
    obtain ⟨i, x, hi, rfl, rfl, x0, x1, Hx, rfl⟩ := hrel
    by_cases hlt : i < 9
    · obtain ⟨e1, e2, e3⟩ := HST.out i hlt
      rw [← Hx.out] at e1
      by_cases hc : 20 < s.size ∧ 20 + i < s.size - 1
      · rw [if_pos hc] at e1
        obtain ⟨g1, g2⟩ := hc
        have hi2 : 20 + i < s.size := by omega
        rw [byteF_at s (20 + i) hi2] at e1
        obtain ⟨c, hcc⟩ : ∃ c : Int, ((s[20 + i]'hi2).toNat : Int) = c := ⟨_, rfl⟩
        have hcb : 0 ≤ c ∧ c ≤ 255 := by have := (s[20 + i]'hi2).toNat_lt; omega
        obtain ⟨c0, c1⟩ := hcb
        rw [hcc] at e1
        have E : Hid (x * 10 + c - 48 = decF ((nineL s).take (i + 1)) ∧ 0 ≤ x * 10 + c - 48 ∧ x * 10 + c - 48 ≤ 1000000000) := Lib.hid (by omega)
        clear e1 e2 e3
        go_wp2_with fail
        go_roundw
        case rel => exact ⟨i + 1, x * 10 + c - 48, by omega, by go_num, by go_num, E.out.2.1, E.out.2.2, Lib.hid E.out.1, trivial⟩
        case measure => simp [intOf]; omega
      · rw [if_neg hc] at e1
        have E : Hid (x * 10 = decF ((nineL s).take (i + 1)) ∧ 0 ≤ x * 10 ∧ x * 10 ≤ 1000000000) := Lib.hid (by omega)
        clear e1 e2 e3
        by_cases g1 : 20 < s.size
        · have g2 : ¬ (20 + (i : Int) < (s.size : Int) - 1) := by omega
          go_wp2_with fail
          go_roundw
          case rel => exact ⟨i + 1, x * 10, by omega, by go_num, by go_num, E.out.2.1, E.out.2.2, Lib.hid E.out.1, trivial⟩
          case measure => simp [intOf]; omega
        · go_wp2_with fail
          go_roundw
          case rel => exact ⟨i + 1, x * 10, by omega, by go_num, by go_num, E.out.2.1, E.out.2.2, Lib.hid E.out.1, trivial⟩
          case measure => simp [intOf]; omega
    · obtain rfl : i = 9 := by omega
      go_wp2_with fail
      go_ret
      exact ⟨ret_int (Hx.out.trans HE.out.symm), rfl⟩
theorem rpart_at (s : ByteArray) (v : Int) (hv : partV s = v) (hs : s.size ≤ 140737488355328) (hk : secOK s = true) (w : World) : Calls Tryd.prog 35 #[.string s] w fun e w' => e = .returned (.int .i64 v) ∧ w = w' := by
  subst hv; exact rpart_any s hs hk w
end Go.Proofs.YtijpbfafkdpolaaDoor
