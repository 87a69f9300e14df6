import Derived.Test.YtijpbfafkdpolaaDoorP6
import Derived.Test.YtijpbfafkdpolaaDoorS18
namespace Go.Proofs.YtijpbfafkdpolaaDoor
open Go.RowKit Go.Shelf

theorem offB (x : Int) (h0 : 0 ≤ x) (h1 : x ≤ 999999999) : ∀ k, 0 ≤ offD x k ∧ offD x k ≤ 999999999
  | 0 => ⟨h0, h1⟩
  | k + 1 => by have := offB x h0 h1 k; simp only [offD]; omega
theorem digsL_all (x : Int) : ∀ k, (digsL x k).all digB = true
  | 0 => rfl
  | k + 1 => by
    simp only [digsL, List.all_append, digsL_all (x / 10) k, Bool.true_and, List.all_cons, List.all_nil, Bool.and_true, digB, decide_eq_true_eq]
    omega
/-- nine digits, the last of them 7 -/
def sevenL (x : Int) : List Int := (digsL x 9).set 8 55
theorem seven_facts (x : Int) : (sevenL x).all digB = true ∧ (sevenL x).length = 9 ∧ (sevenL x).getD 8 0 = 55 := by
  have hl := digsL_len x 9
  have ha := digsL_all x 9
  unfold sevenL
  refine ⟨?_, by rw [List.length_set, hl], ?_⟩
  · rw [List.all_eq_true] at ha ⊢
    intro y hy
    rcases List.mem_or_eq_of_mem_set hy with h | h
    · exact ha y h
    · rw [h]; decide
  · rw [List.getD, List.getElem?_set_self (by omega)]
    rfl
theorem ext_str (s : ByteArray) : s.extract 0 19 = strOfNums (strN s 0 19) := by
  apply bytes_ext
  have e : strN s 0 19 = (s.data.toList.take 19).map fun b => (b.toNat : Int) := by
    unfold strN nums
    rw [List.drop_zero, List.map_take]
  rw [e, strOfNums_map, ByteArray.data_extract, Array.toList_extract, List.extract_eq_take_drop]
  rfl
theorem cut_text (s : ByteArray) : s.extract 0 19 ++ ⟨#[90]⟩ = strOfNums (cutL s) := by
  unfold cutL
  rw [strOfNums_app, ext_str]
  rfl
theorem other_text (s : ByteArray) (D : List Int) : s.extract 0 19 ++ ⟨#[46]⟩ ++ strOfNums D ++ ⟨#[90]⟩ = strOfNums (otherL s D) := by
  unfold otherL
  rw [strOfNums_app, strOfNums_app, strOfNums_app, ext_str, ByteArray.append_assoc, ByteArray.append_assoc]
  rfl
theorem own_set {w : World} {base g c : Nat} {xs : List Int} (h : w.ownsRow base 5 1 (.slice (some ⟨g, 0, none⟩) 9 c) 9 (xs.map (Value.int .u8))) :
    (w.setCell ⟨g, 8, none⟩ (.int .u8 55)).ownsRow base 5 1 (.slice (some ⟨g, 0, none⟩) 9 c) 9 ((xs.set 8 55).map (Value.int .u8)) := by
  have := (h.stored 8 (.int .u8 55)).1
  rwa [← List.map_set] at this

theorem own_drewN {w : World} {base e size n : Nat} {v : Value} {xs : List Value} (h : w.ownsRow base e size v n xs) (k : Nat) : (w.drewN k).ownsRow base e size v n xs := h
theorem own_at {w : World} {base e n c : Nat} {A : Option Addr} {xs : List Value} (hn : 0 < n) (h : w.ownsRow base e 1 (.slice A n c) n xs) : ∃ g, A = some ⟨g, 0, none⟩ ∧ base ≤ g := by
  rcases h.2 with ⟨hv, h0⟩ | ⟨g, cap, cur, hv, hb, _⟩
  · have h1 := h.1
    rw [h0] at h1
    simp at h1
    omega
  · exact ⟨g, (Value.slice.inj hv).1, hb⟩
theorem row_cell {w : World} {base g c : Nat} {X : Int} (h : w.ownsRow base 5 1 (.slice (some ⟨g, 0, none⟩) 9 c) 9 ((digsL X 9).map (Value.int .u8))) : w.cell? ⟨g, 8, none⟩ = some (.int .u8 ((digsL X 9).getD 8 0)) := by
  rw [h.cellAt 8 (by omega), List.getElem?_map]
  have hl := digsL_len X 9
  simp [List.getD, List.getElem?_eq_getElem (show 8 < (digsL X 9).length by omega)]
theorem row_conv {w : World} {base g c : Nat} {X : Int} {S : ByteArray} (hS : strOfNums (sevenL X) = S) (h : w.ownsRow base 5 1 (.slice (some ⟨g, 0, none⟩) 9 c) 9 ((digsL X 9).map (Value.int .u8))) (k : Nat) :
    (convert 34 9 (.slice (some ⟨g, 0, none⟩) 9 c)).run Tryd.prog ((w.setCell ⟨g, 8, none⟩ (.int .u8 55)).drewN k) = .ok (.string S) ((w.setCell ⟨g, 8, none⟩ (.int .u8 55)).drewN k) := by
  rw [← hS]
  exact conv_own (own_drewN (own_set h) k)
theorem back_facts {s : ByteArray} {n X : Int} {S : ByteArray} (hk : secOK s = true) (hn : secV s = n) (hS : strOfNums (sevenL X) = S) :
    S.size = 9 ∧ IsMk n (s.extract 0 19 ++ ⟨#[90]⟩) ∧ (-9223372036854775808 ≤ n ∧ n ≤ 9223372036854775807) ∧ (s.extract 0 19 ++ ⟨#[90]⟩).size = 20 ∧ secV (s.extract 0 19 ++ ⟨#[46]⟩ ++ S ++ ⟨#[90]⟩) = n ∧ secOK (s.extract 0 19 ++ ⟨#[46]⟩ ++ S ++ ⟨#[90]⟩) = true ∧ (s.extract 0 19 ++ ⟨#[46]⟩ ++ S ++ ⟨#[90]⟩).size = 30 ∧ cmpV (s.extract 0 19 ++ ⟨#[90]⟩) (s.extract 0 19 ++ ⟨#[46]⟩ ++ S ++ ⟨#[90]⟩) = -1 := by
  obtain ⟨q1, q2, q3⟩ := seven_facts X
  obtain ⟨o1, o2, o3, _⟩ := other_secs hk q1 q2 q3
  have hM := cut_made hk
  have hC := cut_less hk q1 q2 q3
  have hcz := (cut_secs hk).2.2
  rw [hn] at hM o2
  rw [← hS, other_text, cut_text]
  refine ⟨by rw [strOfNums_size, q2], hM, ?_, hcz, o2, o1, o3, hC⟩
  rcases mk_secs hM with ⟨_, he⟩ | ⟨h1, _⟩
  · rw [he] at hcz; cases hcz
  · have := (inMk_iff n).1 h1; omega

set_option maxRecDepth 100000 in
set_option maxHeartbeats 8000000 in
theorem stampBack_walk (s : ByteArray) (p : Int) (w : World) (hs : s.size ≤ 140737488351232) (hp : (0 : Int) ≤ p ∧ p ≤ 4294967295) : Calls Tryd.prog 8 #[.string s, .int .u32 p] w fun e w' => e = .returned (.bool true) ∧ Below w.heap.size w w' := by
  obtain ⟨p0, p1⟩ := hp
  obtain ⟨n, hn⟩ : ∃ n, secV s = n := ⟨_, rfl⟩
  cases ho : secOK s with
  | false =>
    have HS := Lib.hid (secs_at s n false hn ho (by omega))
    clear hn ho
    go_enter Tryd.func8, Tryd.ntmps8
    go_wp2_with fail
    refine (HS.out _).mono ?_
    rintro e w1 ⟨rfl, hb1⟩
    have B1 := Lib.hid hb1
    have g1 := hb1.size
    clear hb1
    go_wp2_with fail
    refine (awake_any _).mono ?_
    rintro e w2 ⟨rfl, hb1⟩
    have B2 := Lib.hid (B1.out.trans (hb1.mono g1))
    have g2 := Nat.le_trans g1 hb1.size
    clear hb1
    go_wp2_with fail
    refine (awake_any _).mono ?_
    rintro e w3 ⟨rfl, hb1⟩
    have B3 := Lib.hid (B2.out.trans (hb1.mono g2))
    clear hb1
    go_wp2_with fail
    go_ret
    exact ⟨rfl, B3.out⟩
  | true =>
    have HS := Lib.hid (secs_at s n true hn ho (by omega))
    have hz : 20 ≤ s.size := (secOK_head ho).1
    have hz19 : (s.extract 0 19).size = 19 := by simp; omega
    have Hk := Lib.hid ho
    have Hn := Lib.hid hn
    obtain ⟨X, hX⟩ : ∃ X, p % 1000000000 = X := ⟨_, rfl⟩
    have hXb : 0 ≤ X ∧ X ≤ 999999999 := by omega
    have HX := Lib.hid hX
    obtain ⟨X0, X1⟩ := hXb
    clear hn ho
    go_enter Tryd.func8, Tryd.ntmps8
    go_wp2_with fail
    refine (HS.out _).mono ?_
    rintro e w1 ⟨rfl, hb1⟩
    have B1 := Lib.hid hb1
    have g1 := hb1.size
    clear hb1
    go_wp2_with fail
    refine (awake_any _).mono ?_
    rintro e w2 ⟨rfl, hb1⟩
    have B2 := Lib.hid (B1.out.trans (hb1.mono g1))
    have g2 := Nat.le_trans g1 hb1.size
    clear hb1
    go_wp2_with fail
    clear hX
    go_loopw [7, 8, 9] (fun t7 t8 t9 wr => ∃ (k : Nat) (x : Int), k ≤ 9 ∧ t7 = .int .u32 x ∧ t9 = .int .i64 k ∧ 0 ≤ x ∧ x ≤ 999999999 ∧ Hid (x = offD X k) ∧ Hid (wr.ownsRow w.heap.size 5 1 t8 k ((digsL X k).map (Value.int .u8))) ∧ Below w.heap.size w wr) (fun _ _ t9 _ => 9 - (intOf t9).toNat)
    case atStart => exact ⟨0, X, by omega, by rw [HX.out], rfl, X0, X1, Lib.hid rfl, Lib.hid (World.ownsRow_nil _ _ _ _), B2.out⟩
    case round =>
      obtain ⟨k, x, hk, rfl, rfl, x0, x1, Hx, Hown, hbw⟩ := hrel
      obtain ⟨A1, c1, rfl⟩ := own_form Hown.out
      have Hbw := Lib.hid hbw
      have zb := hbw.size
      clear hbw
      by_cases hlt : k < 9
      · have hown0 := World.ownsRow_lit (base := w.heap.size) (e := 5) (size := 1) wr #[.int .u8 (48 + x % 10)] 1 zb (by decide) rfl
        have Hrd := Lib.hid ((Rd.of_own Hown.out).below ((Below.refl wr.heap.size wr).alloc (Nat.le_refl _) (.cells #[.int .u8 (48 + x % 10)] 5)))
        have Hl := Lib.hid (digsL_len X k)
        have Hst := Lib.hid (digsL_step X k)
        have Hbz := Lib.hid (Hbw.out.alloc zb (.cells #[.int .u8 (48 + x % 10)] 5))
        have Hsz : Hid (w.heap.size ≤ (wr.alloc (.cells #[.int .u8 (48 + x % 10)] 5)).heap.size) := Lib.hid (by simp; omega)
        have Hown0 := Lib.hid hown0
        clear hown0
        go_wp2_with (at_builtin; refine wpList_app _ rfl _ _ 34 5 rfl w.heap.size _ 1 Tryd.underlying34 info5 rfl _ 1 _ rfl Hown0.out wr.heap.size _ k _ ((digsL X k).map (Value.int .u8)) rfl Hrd.out ?c2 (ints_one .u8 _) ?c3 ?c4 Hsz.out ?_)
        case c2 => first | exact Hl.out | (rw [List.length_map]; exact Hl.out)
        case c3 => omega
        case c4 => first | omega | (simp only [maxLen]; omega)
        intro v' w3 hown2 hgrow
        have hb3 := Below.own Hbz.out Hown0.out hgrow Hsz.out (Nat.le_refl _)
        have hown3 : w3.ownsRow w.heap.size 5 1 v' (k + 1) ((digsL X (k + 1)).map (Value.int .u8)) := by
          rw [Hst.out, ← Hx.out, List.map_cons, Nat.add_comm k 1]
          exact hown2
        have Hown3 := Lib.hid hown3
        have Hx2 : Hid (x / 10 = offD X (k + 1)) := Lib.hid (by rw [Hx.out]; rfl)
        clear hown2 hgrow hown3
        go_wp2_with fail
        go_roundw
        case rel => exact ⟨k + 1, x / 10, by omega, by go_num, by go_num, by omega, by omega, Hx2, Hown3, hb3⟩
        case measure => simp [intOf]; omega
      · obtain rfl : k = 9 := by omega
        obtain ⟨g, rfl, hgB⟩ := own_at (by omega) Hown.out
        have hcell := row_cell Hown.out
        have hfro := Hown.out.frozenAt 8
        generalize (digsL X 9).getD 8 0 = old at hcell
        obtain ⟨S, hS⟩ : ∃ S, strOfNums (sevenL X) = S := ⟨_, rfl⟩
        have Hcv := Lib.hid (row_conv hS Hown.out)
        have B3 := Lib.hid (Hbw.out.setCell (p := ⟨g, 8, none⟩) hgB (.int .u8 55))
        obtain ⟨hSz, hM, hnb, hcz, hT1, hT2, hT3, hC⟩ := back_facts Hk.out Hn.out hS
        have HT := Lib.hid (secs_at _ n true hT1 hT2 (by omega))
        have HM := Lib.hid (make_at n _ hM hnb)
        have HC := Lib.hid (comp_at _ _ (-1) hC (by omega) (by omega))
        clear hS hC hM hcz hT1 hT2 hT3 hnb Hown Hbw Hx
        go_wp2_with fail
        have hcv := Hcv.out
        generalize wr.setCell ⟨g, 8, none⟩ (.int .u8 55) = W at *
        go_quiet (fail)
        clear hcv Hcv
        go_wp2_with fail
        refine (HT.out _).mono ?_
        rintro e w4 ⟨rfl, hb1⟩
        have B4 := Lib.hid ((below_drewN B3.out nq).trans (hb1.mono B3.out.size))
        clear hb1 B3 hcell hfro
        go_wp2_with fail
        refine wp_region_bel (by kernel_rfl) (by kernel_rfl) ?_
        iterate 23 (go_big_quiet_step ((first | (intro _; rfl) | (intro hC; exact Bel.step (HM.out _) hC) | (intro hC; exact Bel.step (HC.out _) hC))))
        refine wpQuiet_nil ?_
        intro w5 hb1
        have B5 := Lib.hid (B4.out.trans (Below.mono hb1 B4.out.size))
        clear hb1
        go_wp2_with fail
        go_ret
        exact ⟨ret_bool' (by simp), B5.out⟩
end Go.Proofs.YtijpbfafkdpolaaDoor
