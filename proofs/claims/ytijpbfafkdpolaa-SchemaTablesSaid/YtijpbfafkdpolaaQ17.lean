import Derived.Test.YtijpbfafkdpolaaQ14
import Derived.StillTailTactics
import Derived.ArgAppend
import Derived.BigQuiet
import Derived.Deep.DeepCutAuto
import Derived.Deep.CutBlock
namespace Go.Proofs.Ytijpbfafkdpolaa
open Go.RowKit Go.Shelf

theorem info9' : (Try.prog.info? 9).map (fun i => (i.zero, i.size, i.bytes)) = some (some (.string ByteArray.empty), 1, 16) := by kernel_rfl
theorem types_cells (W : World) : ∀ k u, (typesL.map Value.string)[k]? = some u → (W.alloc (.cells #[.string ⟨#[67, 97, 114, 100]⟩, .string ⟨#[65, 100, 100, 114, 101, 115, 115]⟩, .string ⟨#[65, 100, 100, 114, 101, 115, 115, 67, 111, 109, 112, 111, 110, 101, 110, 116]⟩, .string ⟨#[65, 110, 110, 105, 118, 101, 114, 115, 97, 114, 121]⟩, .string ⟨#[69, 109, 97, 105, 108, 65, 100, 100, 114, 101, 115, 115]⟩, .string ⟨#[76, 97, 110, 103, 117, 97, 103, 101, 80, 114, 101, 102]⟩, .string ⟨#[76, 105, 110, 107]⟩, .string ⟨#[77, 101, 100, 105, 97]⟩, .string ⟨#[78, 97, 109, 101]⟩, .string ⟨#[78, 97, 109, 101, 67, 111, 109, 112, 111, 110, 101, 110, 116]⟩, .string ⟨#[78, 105, 99, 107, 110, 97, 109, 101]⟩, .string ⟨#[78, 111, 116, 101]⟩, .string ⟨#[79, 110, 108, 105, 110, 101, 83, 101, 114, 118, 105, 99, 101]⟩, .string ⟨#[79, 114, 103, 85, 110, 105, 116]⟩, .string ⟨#[79, 114, 103, 97, 110, 105, 122, 97, 116, 105, 111, 110]⟩, .string ⟨#[80, 97, 114, 116, 105, 97, 108, 68, 97, 116, 101]⟩, .string ⟨#[80, 104, 111, 110, 101]⟩, .string ⟨#[82, 101, 108, 97, 116, 105, 111, 110]⟩, .string ⟨#[84, 105, 109, 101, 115, 116, 97, 109, 112]⟩, .string ⟨#[84, 105, 116, 108, 101]⟩] 9)).cell? ⟨W.heap.size, k, none⟩ = some u := by
  intro k u hu
  simp only [World.cell?_alloc_new]
  have e : (#[.string ⟨#[67, 97, 114, 100]⟩, .string ⟨#[65, 100, 100, 114, 101, 115, 115]⟩, .string ⟨#[65, 100, 100, 114, 101, 115, 115, 67, 111, 109, 112, 111, 110, 101, 110, 116]⟩, .string ⟨#[65, 110, 110, 105, 118, 101, 114, 115, 97, 114, 121]⟩, .string ⟨#[69, 109, 97, 105, 108, 65, 100, 100, 114, 101, 115, 115]⟩, .string ⟨#[76, 97, 110, 103, 117, 97, 103, 101, 80, 114, 101, 102]⟩, .string ⟨#[76, 105, 110, 107]⟩, .string ⟨#[77, 101, 100, 105, 97]⟩, .string ⟨#[78, 97, 109, 101]⟩, .string ⟨#[78, 97, 109, 101, 67, 111, 109, 112, 111, 110, 101, 110, 116]⟩, .string ⟨#[78, 105, 99, 107, 110, 97, 109, 101]⟩, .string ⟨#[78, 111, 116, 101]⟩, .string ⟨#[79, 110, 108, 105, 110, 101, 83, 101, 114, 118, 105, 99, 101]⟩, .string ⟨#[79, 114, 103, 85, 110, 105, 116]⟩, .string ⟨#[79, 114, 103, 97, 110, 105, 122, 97, 116, 105, 111, 110]⟩, .string ⟨#[80, 97, 114, 116, 105, 97, 108, 68, 97, 116, 101]⟩, .string ⟨#[80, 104, 111, 110, 101]⟩, .string ⟨#[82, 101, 108, 97, 116, 105, 111, 110]⟩, .string ⟨#[84, 105, 109, 101, 115, 116, 97, 109, 112]⟩, .string ⟨#[84, 105, 116, 108, 101]⟩] : Array Value) = (typesL.map Value.string).toArray := rfl
  rw [e]
  simpa using hu
theorem typesL_at (k : Nat) (h : k < 20) : (typesL.map Value.string)[k]? = some (.string (typesL.getD k ⟨#[]⟩)) := by
  have hl : k < typesL.length := h
  rw [List.getElem?_map, List.getD, List.getElem?_eq_getElem hl]
  rfl
theorem all_at (of : ByteArray) (k : Nat) (h : k < 21) : ((typesL ++ [of]).map Value.string)[k]? = some (.string ((typesL ++ [of]).getD k ⟨#[]⟩)) := by
  have hl : k < (typesL ++ [of]).length := h
  rw [List.getElem?_map, List.getD, List.getElem?_eq_getElem hl]
  rfl

set_option maxRecDepth 100000 in
set_option maxHeartbeats 8000000 in
theorem schemaTables_walk (of : ByteArray) (W : World) (_h0 : of.size ≤ 140737488351232) : Calls Try.prog 3 #[.string of] W fun e w' => e = .returned (.bool true) ∧ Below W.heap.size W w' := by
  clear _h0
  obtain ⟨i0, hi0, hi1, hi2, hi3⟩ := info_parts info9'
  go_enter Try.func3, Try.ntmps3
  go_wp2_with fail
  refine (types_any _).mono ?_
  rintro e w0 ⟨rfl, hw0⟩
  have T0 : Hid (∀ k u, (typesL.map Value.string)[k]? = some u → w0.cell? ⟨W.heap.size, k, none⟩ = some u) := Lib.hid (by rw [← hw0]; exact types_cells W)
  have tz0 : W.heap.size < w0.heap.size := by rw [← hw0]; simp
  have B0 : Hid (Below W.heap.size W w0) := Lib.hid (by rw [← hw0]; exact (Below.refl W.heap.size W).alloc (Nat.le_refl _) _)
  clear hw0
  go_wp2_with fail
  refine (rtypes_any _).mono ?_
  rintro e w1 ⟨rfl, hw1⟩
  have U1 : Hid (∀ k u, (typesL.map Value.string)[k]? = some u → w1.cell? ⟨w0.heap.size, k, none⟩ = some u) := Lib.hid (by rw [← hw1]; exact types_cells w0)
  have D1 : Hid (Below w0.heap.size w0 w1) := Lib.hid (by rw [← hw1]; exact (Below.refl w0.heap.size w0).alloc (Nat.le_refl _) _)
  have uz1 : w0.heap.size < w1.heap.size := by rw [← hw1]; simp
  clear hw1
  go_wp2_with fail
  refine (awake_any _).mono ?_
  rintro e w2 ⟨rfl, hb2⟩
  have T2 : Hid (∀ k u, (typesL.map Value.string)[k]? = some u → w2.cell? ⟨W.heap.size, k, none⟩ = some u) := Lib.hid fun k u hu => (hb2.cell (p := ⟨W.heap.size, k, none⟩) (by show W.heap.size < _; omega)).trans ((D1.out.cell (p := ⟨W.heap.size, k, none⟩) tz0).trans (T0.out k u hu))
  have U2 : Hid (∀ k u, (typesL.map Value.string)[k]? = some u → w2.cell? ⟨w0.heap.size, k, none⟩ = some u) := Lib.hid fun k u hu => (hb2.cell (p := ⟨w0.heap.size, k, none⟩) uz1).trans (U1.out k u hu)
  have z2 := hb2.size
  have B2 := Lib.hid ((B0.out.trans (D1.out.mono (Nat.le_of_lt tz0))).trans (hb2.mono (by omega)))
  clear hb2 T0 U1 D1 B0
  have B2' := Lib.hid (B2.out.alloc B2.out.size (.cells #[.string of] 9))
  have hz2 : w2.heap.size < (w2.alloc (.cells #[.string of] 9)).heap.size := by simp
  have T2' : Hid (∀ k u, (typesL.map Value.string)[k]? = some u → (w2.alloc (.cells #[.string of] 9)).cell? ⟨W.heap.size, k, none⟩ = some u) := Lib.hid fun k u hu => (((Below.refl w2.heap.size w2).alloc (Nat.le_refl _) _).cell (p := ⟨W.heap.size, k, none⟩) (by show W.heap.size < _; omega)).trans (T2.out k u hu)
  have U2' : Hid (∀ k u, (typesL.map Value.string)[k]? = some u → (w2.alloc (.cells #[.string of] 9)).cell? ⟨w0.heap.size, k, none⟩ = some u) := Lib.hid fun k u hu => (((Below.refl w2.heap.size w2).alloc (Nat.le_refl _) _).cell (p := ⟨w0.heap.size, k, none⟩) (by show w0.heap.size < _; omega)).trans (U2.out k u hu)
  go_wp2_with (at_builtin; refine wpList_append_grows _ rfl _ _ 22 rfl 9 i0 _ 1 16 Try.underlying22 hi0 hi1 hi2 hi3 rfl (by decide) (some ⟨w0.heap.size, 0, none⟩) 20 20 (typesL.map Value.string) rfl (fun h => by cases h) rfl ?c1 ⟨w2.heap.size, 0, none⟩ 1 1 [.string of] rfl rfl ?c2 ?c3 ?c4 ?c5 ?c6 ?_)
  case c1 =>
    intro b hb j u hu
    injection hb with hb
    subst hb
    rw [Addr.add_lit, Nat.zero_add]
    exact U2'.out j u hu
  case c2 =>
    intro j u hu
    rw [Addr.add_lit, Nat.zero_add]
    simp only [World.cell?_alloc_new]
    simpa using hu
  case c3 => intro u hu; rw [List.mem_singleton.1 hu]; rfl
  case c4 => omega
  case c5 => simp [maxLen]
  case c6 => omega
  intro v' w3 hown3 hgrow
  obtain ⟨A3, c3, rfl⟩ := own_form hown3
  have hb3 : Below (w2.alloc (.cells #[.string of] 9)).heap.size (w2.alloc (.cells #[.string of] 9)) w3 := ⟨hgrow.os, hgrow.tape, hgrow.output, hgrow.size, fun k hk => hgrow.block k hk (by simp)⟩
  have T3 : Hid (∀ k u, (typesL.map Value.string)[k]? = some u → w3.cell? ⟨W.heap.size, k, none⟩ = some u) := Lib.hid fun k u hu => (hb3.cell (p := ⟨W.heap.size, k, none⟩) (by show W.heap.size < _; omega)).trans (T2'.out k u hu)
  have U3 : Hid (∀ k u, (typesL.map Value.string)[k]? = some u → w3.cell? ⟨w0.heap.size, k, none⟩ = some u) := Lib.hid fun k u hu => (hb3.cell (p := ⟨w0.heap.size, k, none⟩) (by show w0.heap.size < _; omega)).trans (U2'.out k u hu)
  have Rd3 : Hid (Rd w3 w3.heap.size A3 ((typesL ++ [of]).map Value.string)) := Lib.hid (by
    rw [List.map_append]
    exact Rd.of_own hown3)
  have B3 := Lib.hid (B2'.out.trans (hb3.mono B2'.out.size))
  have z3 : W.heap.size < w3.heap.size ∧ w0.heap.size < w3.heap.size := by have := hb3.size; omega
  obtain ⟨z3a, z3b⟩ := z3
  clear hown3 hgrow hb3 T2 U2 T2' U2' B2 B2' hz2 z2 tz0 uz1
  go_wp2_with fail
  go_loopw [6] (fun ti wr => ∃ i : Nat, i ≤ 21 ∧ ti = .int .i64 i ∧ Below w3.heap.size w3 wr) (fun ti _ => 21 - (intOf ti).toNat)
  case atStart => exact ⟨0, Nat.zero_le _, rfl, Below.refl _ _⟩
  case round =>
    obtain ⟨i, hi, rfl, hbw⟩ := hrel
    obtain ⟨wo, rfl⟩ : ∃ wo : World, wo = wr := ⟨_, rfl⟩
    have Hbw := Lib.hid hbw
    have zb := hbw.size
    clear hbw
    by_cases hlt : i < 21
    · obtain ⟨g3, off3, rfl, hg3, hc3⟩ := Rd3.out.at_ (by simp)
      obtain ⟨y, hy⟩ : ∃ y, (typesL ++ [of]).getD i ⟨#[]⟩ = y := ⟨_, rfl⟩
      have hyc : wo.cell? ⟨g3, off3 + i, none⟩ = some (.string y) := by
        rw [← hy]
        exact (Hbw.out.cell (p := ⟨g3, off3 + i, none⟩) hg3).trans (hc3 i _ (all_at of i hlt))
      obtain ⟨t, ht⟩ : ∃ x, propsF y = x := ⟨_, rfl⟩
      obtain ⟨N, hN⟩ : ∃ x, t.length = x := ⟨_, rfl⟩
      have h99 : N ≤ 100 := by rw [← hN, ← ht]; exact props_len y
      have HP := Lib.hid (props_at y N t ht hN)
      have HR : Hid (∀ W, Calls Try.prog 10 #[.string y] W (RPost W.heap.size W N t)) := Lib.hid fun W => by
        have := rProps_any y W
        rw [ht, hN] at this
        exact this
      have HN := Lib.hid hN
      clear hN ht hy hc3
      go_upto_region 9 with (fail)
      go_cut [45] (fun t45 wx => t45 = .bool false ∧ ∃ q, wx = wo.drewN q)
      case first =>
        by_cases h20 : i < 20
        · have hA : wo.cell? ⟨W.heap.size, i, none⟩ = some (.string (typesL.getD i ⟨#[]⟩)) := (Hbw.out.cell (p := ⟨W.heap.size, i, none⟩) z3a).trans (T3.out i _ (typesL_at i h20))
          have hB : wo.cell? ⟨w0.heap.size, i, none⟩ = some (.string (typesL.getD i ⟨#[]⟩)) := (Hbw.out.cell (p := ⟨w0.heap.size, i, none⟩) z3b).trans (U3.out i _ (typesL_at i h20))
          generalize typesL.getD i ⟨#[]⟩ = x at hA hB
          have hd : decide ((i : Int) < 20) = true := decide_eq_true (by omega)
          go_quiet (fail)
          go_wp2_with fail
          go_meet
          exact ⟨by simp, nq, rfl⟩
        · have hd : decide ((i : Int) < 20) = false := decide_eq_false (by omega)
          go_quiet (fail)
          go_wp2_with fail
          go_meet
          exact ⟨by simp, nq, rfl⟩
      case rest =>
        obtain ⟨rfl, q, rfl⟩ := hcut
        have hyc2 : (wo.drewN q).cell? ⟨g3, off3 + i, none⟩ = some (.string y) := hyc
        have Hbq := Lib.hid (show Below w3.heap.size w3 (wo.drewN q) from ⟨Hbw.out.os, Hbw.out.tape, Hbw.out.output, Hbw.out.size, Hbw.out.block⟩)
        have zq : w3.heap.size ≤ (wo.drewN q).heap.size := zb
        clear hyc Hbw zb
        generalize wo.drewN q = wp at *
        go_wp2_with fail
        refine (HP.out _).mono ?_
        rintro e w4 ⟨A4, c4, rfl, ho, hb4⟩
        have z4 := hb4.size
        have Ho4 := Lib.hid ho
        have hyc4 : w4.cell? ⟨g3, off3 + i, none⟩ = some (.string y) := (hb4.cell (p := ⟨g3, off3 + i, none⟩) (by show g3 < _; omega)).trans hyc2
        have B4 := Lib.hid (Hbq.out.trans (hb4.mono zq))
        clear ho hb4 hyc2
        go_wp2_with fail
        refine (HR.out _).mono ?_
        rintro e w5 ⟨A5, c5, rfl, ho, hb5⟩
        have Ho8 := Lib.hid ho
        have Ho7 := Lib.hid (own_below Ho4.out hb5 (Nat.le_refl _))
        have B5 := Lib.hid (B4.out.trans (hb5.mono (Nat.le_trans zq z4)))
        have z5 := B5.out.size
        clear ho hb5 hyc4
        go_wp2_with fail
        go_loopw [9] (fun tk wr => ∃ k : Nat, k ≤ N ∧ tk = .int .i64 k ∧ Below w5.heap.size w5 wr) (fun tk _ => N - (intOf tk).toNat)
        case atStart => exact ⟨0, Nat.zero_le _, rfl, Below.refl _ _⟩
        case round =>
          obtain ⟨i2, hi2, rfl, hbw⟩ := hrel
          have Hbw2 := Lib.hid hbw
          have zb2 := hbw.size
          clear hbw
          by_cases hlt2 : i2 < N
          · obtain ⟨g4, rfl, _⟩ := own_some (by omega) Ho7.out
            obtain ⟨g5, rfl, _⟩ := own_some (by omega) Ho8.out
            have q4 := own_cell (own_below Ho7.out Hbw2.out (Nat.le_refl _)) HN.out hlt2
            have q5 := own_cell (own_below Ho8.out Hbw2.out (Nat.le_refl _)) HN.out hlt2
            generalize t.getD i2 noP = p at q4 q5
            obtain ⟨pa, pb, pc, pq, pd⟩ := p
            have h0 : wr.cell? ⟨g4, i2 * 5, none⟩ = some (.string pa) := q4 0 _ rfl
            have k0 : wr.cell? ⟨g5, i2 * 5, none⟩ = some (.string pa) := q5 0 _ rfl
            have h1 : wr.cell? ⟨g4, i2 * 5 + 1, none⟩ = some (.int .i64 pb) := q4 1 _ rfl
            have k1 : wr.cell? ⟨g5, i2 * 5 + 1, none⟩ = some (.int .i64 pb) := q5 1 _ rfl
            have h2 : wr.cell? ⟨g4, i2 * 5 + 2, none⟩ = some (.string pc) := q4 2 _ rfl
            have k2 : wr.cell? ⟨g5, i2 * 5 + 2, none⟩ = some (.string pc) := q5 2 _ rfl
            have h3 : wr.cell? ⟨g4, i2 * 5 + 3, none⟩ = some (.bool pq) := q4 3 _ rfl
            have k3 : wr.cell? ⟨g5, i2 * 5 + 3, none⟩ = some (.bool pq) := q5 3 _ rfl
            have h4 : wr.cell? ⟨g4, i2 * 5 + 4, none⟩ = some (.string pd) := q4 4 _ rfl
            have k4 : wr.cell? ⟨g5, i2 * 5 + 4, none⟩ = some (.string pd) := q5 4 _ rfl
            clear q4 q5
            go_wp2_with fail
            refine wp_region_still_tail 8 (by kernel_rfl) (by kernel_rfl) ?_
            simp only [List.take_succ_cons, List.take_zero, List.drop_succ_cons, List.drop_zero]
            rw [show ({ wr with drawn := wr.drawn + 1 } : World) = wr.drew from rfl]
            repeat still_step
            refine wpStill_nil ?_
            go_wp2_with fail
            refine (same_any pa pc pd pb pq _).mono ?_
            rintro e w7 ⟨rfl, hb7⟩
            have Hb7 := Lib.hid (Hbw2.out.drew.trans (hb7.mono (show w5.heap.size ≤ wr.drew.heap.size from zb2)))
            clear hb7
            go_wp2_with fail
            go_roundw
            case rel => exact ⟨i2 + 1, by omega, by go_num, Hb7.out⟩
            case measure => simp [intOf]; omega
          · have Hend := Lib.hid (B5.out.trans (Hbw2.out.mono z5))
            go_wp2_with fail
            go_roundw
            case rel => exact ⟨i + 1, by omega, by go_num, Hend.out⟩
            case measure => simp [intOf]; omega
    · go_wp2_with fail
      go_ret
      exact ⟨rfl, B3.out.trans (Hbw.out.mono (Nat.le_of_lt z3a))⟩
end Go.Proofs.Ytijpbfafkdpolaa
