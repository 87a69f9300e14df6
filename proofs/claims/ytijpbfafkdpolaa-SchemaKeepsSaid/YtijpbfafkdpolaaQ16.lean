import Derived.Test.YtijpbfafkdpolaaQ14
import Derived.StillTailTactics
import Derived.Outline
namespace Go.Proofs.Ytijpbfafkdpolaa
open Go.RowKit Go.Shelf

theorem types_cell (W : World) (k : Nat) (h : k < 20) : (W.alloc (.cells #[.string ⟨#[67, 97, 114, 100]⟩, .string ⟨#[65, 100, 100, 114, 101, 115, 115]⟩, .string ⟨#[65, 100, 100, 114, 101, 115, 115, 67, 111, 109, 112, 111, 110, 101, 110, 116]⟩, .string ⟨#[65, 110, 110, 105, 118, 101, 114, 115, 97, 114, 121]⟩, .string ⟨#[69, 109, 97, 105, 108, 65, 100, 100, 114, 101, 115, 115]⟩, .string ⟨#[76, 97, 110, 103, 117, 97, 103, 101, 80, 114, 101, 102]⟩, .string ⟨#[76, 105, 110, 107]⟩, .string ⟨#[77, 101, 100, 105, 97]⟩, .string ⟨#[78, 97, 109, 101]⟩, .string ⟨#[78, 97, 109, 101, 67, 111, 109, 112, 111, 110, 101, 110, 116]⟩, .string ⟨#[78, 105, 99, 107, 110, 97, 109, 101]⟩, .string ⟨#[78, 111, 116, 101]⟩, .string ⟨#[79, 110, 108, 105, 110, 101, 83, 101, 114, 118, 105, 99, 101]⟩, .string ⟨#[79, 114, 103, 85, 110, 105, 116]⟩, .string ⟨#[79, 114, 103, 97, 110, 105, 122, 97, 116, 105, 111, 110]⟩, .string ⟨#[80, 97, 114, 116, 105, 97, 108, 68, 97, 116, 101]⟩, .string ⟨#[80, 104, 111, 110, 101]⟩, .string ⟨#[82, 101, 108, 97, 116, 105, 111, 110]⟩, .string ⟨#[84, 105, 109, 101, 115, 116, 97, 109, 112]⟩, .string ⟨#[84, 105, 116, 108, 101]⟩] 9)).cell? ⟨W.heap.size, k, none⟩ = some (.string (typesL.getD k ⟨#[]⟩)) := by
  simp only [World.cell?_alloc_new]
  have hall : ∀ j : Fin 20, (#[.string ⟨#[67, 97, 114, 100]⟩, .string ⟨#[65, 100, 100, 114, 101, 115, 115]⟩, .string ⟨#[65, 100, 100, 114, 101, 115, 115, 67, 111, 109, 112, 111, 110, 101, 110, 116]⟩, .string ⟨#[65, 110, 110, 105, 118, 101, 114, 115, 97, 114, 121]⟩, .string ⟨#[69, 109, 97, 105, 108, 65, 100, 100, 114, 101, 115, 115]⟩, .string ⟨#[76, 97, 110, 103, 117, 97, 103, 101, 80, 114, 101, 102]⟩, .string ⟨#[76, 105, 110, 107]⟩, .string ⟨#[77, 101, 100, 105, 97]⟩, .string ⟨#[78, 97, 109, 101]⟩, .string ⟨#[78, 97, 109, 101, 67, 111, 109, 112, 111, 110, 101, 110, 116]⟩, .string ⟨#[78, 105, 99, 107, 110, 97, 109, 101]⟩, .string ⟨#[78, 111, 116, 101]⟩, .string ⟨#[79, 110, 108, 105, 110, 101, 83, 101, 114, 118, 105, 99, 101]⟩, .string ⟨#[79, 114, 103, 85, 110, 105, 116]⟩, .string ⟨#[79, 114, 103, 97, 110, 105, 122, 97, 116, 105, 111, 110]⟩, .string ⟨#[80, 97, 114, 116, 105, 97, 108, 68, 97, 116, 101]⟩, .string ⟨#[80, 104, 111, 110, 101]⟩, .string ⟨#[82, 101, 108, 97, 116, 105, 111, 110]⟩, .string ⟨#[84, 105, 109, 101, 115, 116, 97, 109, 112]⟩, .string ⟨#[84, 105, 116, 108, 101]⟩] : Array Value)[j.val]? = some (.string (typesL.getD j.val ⟨#[]⟩)) := by
    intro j
    match j with
    | ⟨0, _⟩ | ⟨1, _⟩ | ⟨2, _⟩ | ⟨3, _⟩ | ⟨4, _⟩ | ⟨5, _⟩ | ⟨6, _⟩ | ⟨7, _⟩ | ⟨8, _⟩ | ⟨9, _⟩ | ⟨10, _⟩ | ⟨11, _⟩ | ⟨12, _⟩ | ⟨13, _⟩ | ⟨14, _⟩ | ⟨15, _⟩ | ⟨16, _⟩ | ⟨17, _⟩ | ⟨18, _⟩ | ⟨19, _⟩ => rfl
    | ⟨m + 20, hm⟩ => exact absurd hm (by omega)
  exact hall ⟨k, h⟩

set_option maxRecDepth 100000 in
set_option maxHeartbeats 8000000 in
theorem schemaKeeps_walk (n : Int) (W : World) (hn : (0 : Int) ≤ n ∧ n ≤ 255) : Calls Try.prog 5 #[.int .u8 n] W fun e w' => e = .returned (.bool true) ∧ Below W.heap.size W w' := by
  obtain ⟨n0, n1⟩ := hn
  obtain ⟨k, hk⟩ : ∃ k : Nat, (k : Int) = n % 20 := ⟨(n % 20).toNat, by omega⟩
  have hk20 : k < 20 := by omega
  obtain ⟨of, hof⟩ : ∃ x, typesL.getD k ⟨#[]⟩ = x := ⟨_, rfl⟩
  obtain ⟨t, ht⟩ : ∃ x, propsF of = x := ⟨_, rfl⟩
  obtain ⟨N, hN⟩ : ∃ x, t.length = x := ⟨_, rfl⟩
  have h99 : N ≤ 100 := by rw [← hN, ← ht]; exact props_len of
  have HP := Lib.hid (props_at of N t ht hN)
  have HR : Hid (∀ W, Calls Try.prog 10 #[.string of] W (RPost W.heap.size W N t)) := Lib.hid fun W => by
    have := rProps_any of W
    rw [ht, hN] at this
    exact this
  have HN := Lib.hid hN
  have hty := types_cell W k hk20
  have hty0 := types_cell W 0 (by omega)
  have htf : (W.alloc (.cells #[.string ⟨#[67, 97, 114, 100]⟩, .string ⟨#[65, 100, 100, 114, 101, 115, 115]⟩, .string ⟨#[65, 100, 100, 114, 101, 115, 115, 67, 111, 109, 112, 111, 110, 101, 110, 116]⟩, .string ⟨#[65, 110, 110, 105, 118, 101, 114, 115, 97, 114, 121]⟩, .string ⟨#[69, 109, 97, 105, 108, 65, 100, 100, 114, 101, 115, 115]⟩, .string ⟨#[76, 97, 110, 103, 117, 97, 103, 101, 80, 114, 101, 102]⟩, .string ⟨#[76, 105, 110, 107]⟩, .string ⟨#[77, 101, 100, 105, 97]⟩, .string ⟨#[78, 97, 109, 101]⟩, .string ⟨#[78, 97, 109, 101, 67, 111, 109, 112, 111, 110, 101, 110, 116]⟩, .string ⟨#[78, 105, 99, 107, 110, 97, 109, 101]⟩, .string ⟨#[78, 111, 116, 101]⟩, .string ⟨#[79, 110, 108, 105, 110, 101, 83, 101, 114, 118, 105, 99, 101]⟩, .string ⟨#[79, 114, 103, 85, 110, 105, 116]⟩, .string ⟨#[79, 114, 103, 97, 110, 105, 122, 97, 116, 105, 111, 110]⟩, .string ⟨#[80, 97, 114, 116, 105, 97, 108, 68, 97, 116, 101]⟩, .string ⟨#[80, 104, 111, 110, 101]⟩, .string ⟨#[82, 101, 108, 97, 116, 105, 111, 110]⟩, .string ⟨#[84, 105, 109, 101, 115, 116, 97, 109, 112]⟩, .string ⟨#[84, 105, 116, 108, 101]⟩] 9)).frozen? ⟨W.heap.size, 0, none⟩ = false := by simp [go_sem]
  have htz : W.heap.size < (W.alloc (.cells #[.string ⟨#[67, 97, 114, 100]⟩, .string ⟨#[65, 100, 100, 114, 101, 115, 115]⟩, .string ⟨#[65, 100, 100, 114, 101, 115, 115, 67, 111, 109, 112, 111, 110, 101, 110, 116]⟩, .string ⟨#[65, 110, 110, 105, 118, 101, 114, 115, 97, 114, 121]⟩, .string ⟨#[69, 109, 97, 105, 108, 65, 100, 100, 114, 101, 115, 115]⟩, .string ⟨#[76, 97, 110, 103, 117, 97, 103, 101, 80, 114, 101, 102]⟩, .string ⟨#[76, 105, 110, 107]⟩, .string ⟨#[77, 101, 100, 105, 97]⟩, .string ⟨#[78, 97, 109, 101]⟩, .string ⟨#[78, 97, 109, 101, 67, 111, 109, 112, 111, 110, 101, 110, 116]⟩, .string ⟨#[78, 105, 99, 107, 110, 97, 109, 101]⟩, .string ⟨#[78, 111, 116, 101]⟩, .string ⟨#[79, 110, 108, 105, 110, 101, 83, 101, 114, 118, 105, 99, 101]⟩, .string ⟨#[79, 114, 103, 85, 110, 105, 116]⟩, .string ⟨#[79, 114, 103, 97, 110, 105, 122, 97, 116, 105, 111, 110]⟩, .string ⟨#[80, 97, 114, 116, 105, 97, 108, 68, 97, 116, 101]⟩, .string ⟨#[80, 104, 111, 110, 101]⟩, .string ⟨#[82, 101, 108, 97, 116, 105, 111, 110]⟩, .string ⟨#[84, 105, 109, 101, 115, 116, 97, 109, 112]⟩, .string ⟨#[84, 105, 116, 108, 101]⟩] 9)).heap.size := by simp
  have B0 := Lib.hid ((Below.refl W.heap.size W).alloc (Nat.le_refl _) (.cells #[.string ⟨#[67, 97, 114, 100]⟩, .string ⟨#[65, 100, 100, 114, 101, 115, 115]⟩, .string ⟨#[65, 100, 100, 114, 101, 115, 115, 67, 111, 109, 112, 111, 110, 101, 110, 116]⟩, .string ⟨#[65, 110, 110, 105, 118, 101, 114, 115, 97, 114, 121]⟩, .string ⟨#[69, 109, 97, 105, 108, 65, 100, 100, 114, 101, 115, 115]⟩, .string ⟨#[76, 97, 110, 103, 117, 97, 103, 101, 80, 114, 101, 102]⟩, .string ⟨#[76, 105, 110, 107]⟩, .string ⟨#[77, 101, 100, 105, 97]⟩, .string ⟨#[78, 97, 109, 101]⟩, .string ⟨#[78, 97, 109, 101, 67, 111, 109, 112, 111, 110, 101, 110, 116]⟩, .string ⟨#[78, 105, 99, 107, 110, 97, 109, 101]⟩, .string ⟨#[78, 111, 116, 101]⟩, .string ⟨#[79, 110, 108, 105, 110, 101, 83, 101, 114, 118, 105, 99, 101]⟩, .string ⟨#[79, 114, 103, 85, 110, 105, 116]⟩, .string ⟨#[79, 114, 103, 97, 110, 105, 122, 97, 116, 105, 111, 110]⟩, .string ⟨#[80, 97, 114, 116, 105, 97, 108, 68, 97, 116, 101]⟩, .string ⟨#[80, 104, 111, 110, 101]⟩, .string ⟨#[82, 101, 108, 97, 116, 105, 111, 110]⟩, .string ⟨#[84, 105, 109, 101, 115, 116, 97, 109, 112]⟩, .string ⟨#[84, 105, 116, 108, 101]⟩] 9))
  rw [hof] at hty
  have Hty := Lib.hid (And.intro hty (And.intro hty0 htf))
  clear hN ht hof hty hty0 htf
  have hmod : n % 20 = (k : Int) := hk.symm
  clear hk
  go_enter Try.func5, Try.ntmps5
  go_wp2_with fail
  refine (types_any _).mono ?_
  rintro e w0 ⟨rfl, hw0⟩
  rw [hw0] at Hty htz B0
  clear hw0
  obtain ⟨Hty1, Hty2, Hty3⟩ := Hty.out
  go_wp2_with fail
  refine (awake_any _).mono ?_
  rintro e w1 ⟨rfl, hb1⟩
  have t1 : w1.cell? ⟨W.heap.size, k, none⟩ = some (.string of) := (hb1.cell (p := ⟨W.heap.size, k, none⟩) htz).trans Hty1
  have t2 : w1.cell? ⟨W.heap.size, 0, none⟩ = some (.string (typesL.getD 0 ⟨#[]⟩)) := (hb1.cell (p := ⟨W.heap.size, 0, none⟩) htz).trans Hty2
  have t3 : w1.frozen? ⟨W.heap.size, 0, none⟩ = false := (hb1.frozen (p := ⟨W.heap.size, 0, none⟩) htz).trans Hty3
  have tz1 : W.heap.size < w1.heap.size := Nat.lt_of_lt_of_le htz hb1.size
  have B1 := Lib.hid (B0.out.trans (hb1.mono (Nat.le_of_lt htz)))
  have T23 := Lib.hid (And.intro t2 t3)
  clear hb1 t2 t3 Hty1 Hty2 Hty3
  go_wp2_with fail
  refine (HP.out _).mono ?_
  rintro e w2 ⟨A2, c2, rfl, ho, hb2⟩
  have Ho := Lib.hid ho
  have Hb2 := Lib.hid hb2
  have z2 := hb2.size
  clear ho hb2 t1
  go_wp2_with fail
  go_loopw [6] (fun ti wr => ∃ (i : Nat) (xs : List Value), i ≤ N ∧ ti = .int .i64 i ∧ Hid (wr.ownsRow w1.heap.size 31 5 (.slice A2 N c2) N xs) ∧ Below w1.heap.size w1 wr) (fun ti _ => N - (intOf ti).toNat)
  case atStart => exact ⟨0, _, Nat.zero_le _, rfl, Ho, Hb2.out⟩
  case round =>
    obtain ⟨i, xs, hi, rfl, Hx, hbw⟩ := hrel
    have Hbw := Lib.hid hbw
    have zb := hbw.size
    by_cases hlt : i < N
    · obtain ⟨g, rfl, hg⟩ := own_some (by omega) Hx.out
      have hlx : xs.length = N * 5 := Hx.out.1
      have hc0 : wr.cell? ⟨g, i * 5, none⟩ = some (xs.getD (i * 5) (.bool false)) := by
        rw [Hx.out.cellAt (i * 5) (by omega), List.getD, List.getElem?_eq_getElem (by omega)]
        rfl
      have hf0 := Hx.out.frozenAt (i * 5)
      have Hs := Lib.hid (Hx.out.stored (i * 5) (.string ⟨#[115, 112, 111, 105, 108, 116]⟩)).1
      have Hs2 := Lib.hid (hbw.setCell (p := ⟨g, i * 5, none⟩) hg (.string ⟨#[115, 112, 111, 105, 108, 116]⟩))
      generalize xs.getD (i * 5) (.bool false) = old at hc0
      clear hlx hbw
      go_wp2_with fail
      go_roundw
      case rel => exact ⟨i + 1, _, by omega, by go_num, Hs, Hs2.out⟩
      case measure => simp [intOf]; omega
    · have hge : ¬ ((i : Int) < (N : Int)) := by omega
      obtain ⟨t2, t3⟩ := T23.out
      have u2 : wr.cell? ⟨W.heap.size, 0, none⟩ = some (.string (typesL.getD 0 ⟨#[]⟩)) := (hbw.cell (p := ⟨W.heap.size, 0, none⟩) tz1).trans t2
      have u3 : wr.frozen? ⟨W.heap.size, 0, none⟩ = false := (hbw.frozen (p := ⟨W.heap.size, 0, none⟩) tz1).trans t3
      have B3 := Lib.hid (((B1.out.trans (hbw.mono (Nat.le_of_lt tz1)))).setCell (p := ⟨W.heap.size, 0, none⟩) (Nat.le_refl _) (.string ⟨#[115, 112, 111, 105, 108, 116]⟩))
      generalize typesL.getD 0 ⟨#[]⟩ = old at *
      clear t2 t3 hbw hlt T23
      go_wp2_with fail
      refine (HP.out _).mono ?_
      rintro e w4 ⟨A4, c4, rfl, ho, hb4⟩
      have z4 := hb4.size
      have Ho4 := Lib.hid ho
      have B4 := Lib.hid (B3.out.trans (hb4.mono B3.out.size))
      clear ho hb4 B3 u2 u3
      go_wp2_with fail
      refine (HR.out _).mono ?_
      rintro e w5 ⟨A5, c5, rfl, ho, hb5⟩
      have Ho5 := Lib.hid ho
      have Ho6 := Lib.hid (own_below Ho4.out hb5 (Nat.le_refl _))
      have B5 := Lib.hid (B4.out.trans (hb5.mono B4.out.size))
      have zw5 := B5.out.size
      clear ho hb5
      go_wp2_with fail
      refine (types_any _).mono ?_
      rintro e w6 ⟨rfl, hw6⟩
      have x0 : w6.cell? ⟨w5.heap.size, 0, none⟩ = some (.string ⟨#[67, 97, 114, 100]⟩) := by rw [← hw6]; exact types_cell w5 0 (by omega)
      have Ho7 : Hid (w6.ownsRow _ 31 5 (.slice A4 N c4) N (cellsP t)) := Lib.hid (by rw [← hw6]; exact Ho6.out.alloc _)
      have Ho8 : Hid (w6.ownsRow _ 32 5 (.slice A5 N c5) N (cellsP t)) := Lib.hid (by rw [← hw6]; exact Ho5.out.alloc _)
      have B6 : Hid (Below W.heap.size W w6) := Lib.hid (by rw [← hw6]; exact B5.out.alloc zw5 _)
      have zw6 := B6.out.size
      clear hw6 Ho6 Ho5 Ho4 B5
      go_wp2_with fail
      go_loopw [9] (fun ti wr => ∃ i : Nat, i ≤ N ∧ ti = .int .i64 i ∧ Below w6.heap.size w6 wr) (fun ti _ => N - (intOf ti).toNat)
      case atStart => exact ⟨0, Nat.zero_le _, rfl, Below.refl _ _⟩
      case round =>

        obtain ⟨i2, hi2, rfl, hbw⟩ := hrel
        have Hbw2 := Lib.hid hbw
        have zb2 := hbw.size
        clear hbw hge
        by_cases hlt2 : i2 < N
        · obtain ⟨g4, rfl, _⟩ := own_some (by omega) Ho7.out
          obtain ⟨g5, rfl, _⟩ := own_some (by omega) Ho8.out
          have q4 := own_cell (own_below Ho7.out Hbw2.out (Nat.le_refl _)) HN.out hlt2
          have q5 := own_cell (own_below Ho8.out Hbw2.out (Nat.le_refl _)) HN.out hlt2
          generalize t.getD i2 noP = p at q4 q5
          obtain ⟨pa, pb, pc, pq, pd⟩ := p
          have h0 : wr.cell? ⟨g4, i2 * 5, none⟩ = some (.string pa) := q4 0 _ rfl
          have k0 : wr.cell? ⟨g5, i2 * 5, none⟩ = some (.string pa) := q5 0 _ rfl
          have h1 : wr.cell? ⟨g4, i2 * 5 + 1, none⟩ = some (.int .i64 pb) := q4 1 _ rfl
          have k1 : wr.cell? ⟨g5, i2 * 5 + 1, none⟩ = some (.int .i64 pb) := q5 1 _ rfl
          have h2 : wr.cell? ⟨g4, i2 * 5 + 2, none⟩ = some (.string pc) := q4 2 _ rfl
          have k2 : wr.cell? ⟨g5, i2 * 5 + 2, none⟩ = some (.string pc) := q5 2 _ rfl
          have h3 : wr.cell? ⟨g4, i2 * 5 + 3, none⟩ = some (.bool pq) := q4 3 _ rfl
          have k3 : wr.cell? ⟨g5, i2 * 5 + 3, none⟩ = some (.bool pq) := q5 3 _ rfl
          have h4 : wr.cell? ⟨g4, i2 * 5 + 4, none⟩ = some (.string pd) := q4 4 _ rfl
          have k4 : wr.cell? ⟨g5, i2 * 5 + 4, none⟩ = some (.string pd) := q5 4 _ rfl
          clear q4 q5
          go_wp2_with fail
          refine wp_region_still_tail 8 (by kernel_rfl) (by kernel_rfl) ?_
          simp only [List.take_succ_cons, List.take_zero, List.drop_succ_cons, List.drop_zero]
          rw [show ({ wr with drawn := wr.drawn + 1 } : World) = wr.drew from rfl]
          repeat still_step
          refine wpStill_nil ?_
          go_wp2_with fail
          refine (same_any pa pc pd pb pq _).mono ?_
          rintro e w7 ⟨rfl, hb7⟩
          have Hb7 := Lib.hid (Hbw2.out.drew.trans (hb7.mono (show w6.heap.size ≤ wr.drew.heap.size from zb2)))
          clear hb7
          go_wp2_with fail
          go_roundw
          case rel => exact ⟨i2 + 1, by omega, by go_num, Hb7.out⟩
          case measure => simp [intOf]; omega
        · go_wp2_with fail
          go_ret
          exact ⟨rfl, B6.out.trans (Hbw2.out.mono zw6)⟩
end Go.Proofs.Ytijpbfafkdpolaa
