import Derived.Test.YtebfnglhbfkkdaaF15
import Derived.Test.YtebfnglhbfkkdaaF11
import Derived.Test.YtebfnglhbfkkdaaP1
namespace Go.Proofs.Ytebfnglhbfkkdaa
open Go.RowKit

set_option maxHeartbeats 400000 in
theorem same_any (A C : Option Addr) (n m ca cc B : Nat) (xs ys : List ByteArray) (w : World) (hx : Rd w B A (xs.map Value.string)) (hy : Rd w B C (ys.map Value.string))
    (hn : xs.length = n) (hm : ys.length = m) (bn : n ≤ 9223372036854775807) (bm : m ≤ 9223372036854775807) :
    Calls Try.prog 16 #[.slice A n ca, .slice C m cc] w fun e w' => e = .returned (.bool (decide (xs = ys))) ∧ Dr w w' := by
  have Hn := Lib.hid hn
  have Hm := Lib.hid hm
  clear hn hm
  have Hx := Lib.hid hx
  have Hy := Lib.hid hy
  clear hx hy
  by_cases hnm : n = m
  · subst hnm
    go_enter Try.func16, Try.ntmps16
    go_wp2
    go_loopw [5] (fun i wr => ∃ k : Nat, k ≤ n ∧ i = .int .i64 k ∧ xs.take k = ys.take k ∧ Dr w wr) (fun i _ => n - (intOf i).toNat)
    case atStart => exact ⟨0, Nat.zero_le _, rfl, rfl, Dr.refl _⟩
    case round =>
      obtain ⟨k, hk, rfl, he, ⟨q, rfl⟩⟩ := hrel
      have He := Lib.hid he
      clear he
      by_cases hlt : k < n
      · have lx : k < xs.length := by rw [Hn.out]; exact hlt
        have ly : k < ys.length := by rw [Hm.out]; exact hlt
        obtain ⟨b, off, rfl, _, hc⟩ := Hx.out.at_ (by simp; omega)
        obtain ⟨b2, off2, rfl, _, hc2⟩ := Hy.out.at_ (by simp; omega)
        have h1 := hc k (.string xs[k]) (by simp [lx])
        have h2 := hc2 k (.string ys[k]) (by simp [ly])
        clear hc hc2
        have Hk : Hid ((xs.take (k + 1) = ys.take (k + 1)) ↔ xs[k] = ys[k]) := Lib.hid (take_eq_step lx ly He.out)
        have Hk' : Hid (xs[k] ≠ ys[k] → decide (xs = ys) = false) := Lib.hid (fun h => by
          rw [decide_eq_false_iff_not]; rintro rfl; exact h rfl)
        generalize xs[k] = x at *
        generalize ys[k] = y at *
        by_cases hxy : x = y
        · have e1 := eqS hxy
          have He := Lib.hid hxy
          clear hxy
          go_wp2
          go_quiet (fail)
          go_wp2
          go_roundw
          case rel => exact ⟨k + 1, by omega, by go_num, Hk.out.2 He.out, ⟨_, rfl⟩⟩
          case measure => simp [intOf]; omega
        · have e1 := neS hxy
          have He := Lib.hid hxy
          clear hxy
          go_wp2
          go_quiet (fail)
          go_wp2
          go_ret
          exact ⟨ret_bool (Hk'.out He.out).symm, (Dr.n ⟨_, rfl⟩ _)⟩
      · go_wp2
        go_ret
        refine ⟨ret_bool ?_, ⟨_, rfl⟩⟩
        have h := He.out
        rw [List.take_of_length_le (by rw [Hn.out]; omega), List.take_of_length_le (by rw [Hm.out]; omega)] at h
        simp [h]
  · have hne : (n == m) = false := by simpa using hnm
    have H2 := Lib.hid hnm
    clear hnm
    go_enter Try.func16, Try.ntmps16
    go_wp2
    go_ret
    refine ⟨ret_bool ?_, Dr.refl _⟩
    have := H2.out
    symm
    rw [decide_eq_false_iff_not]
    rintro rfl
    exact this (by rw [← Hn.out, ← Hm.out])

/-- Terms, at known terms -/
theorem terms_at (q : ByteArray) (hq : q.size ≤ 1000000) (ts : List ByteArray) (n : Nat) (h : termsF q = ts) (hn : ts.length = n) (w : World) :
    Calls Try.prog 17 #[.string q] w fun e w' => ∃ A c, e = .returned (.slice A n c) ∧ w'.ownsRow w.heap.size 9 1 (.slice A n c) n (ts.map Value.string) ∧ Below w.heap.size w w' := by
  subst h
  subst hn
  exact terms_any q w hq
theorem rterms_at (q : ByteArray) (hq : q.size ≤ 1000000) (ts : List ByteArray) (n : Nat) (h : termsF q = ts) (hn : ts.length = n) (w : World) :
    Calls Try.prog 18 #[.string q] w fun e w' => ∃ A c, e = .returned (.slice A n c) ∧ w'.ownsRow w.heap.size 9 1 (.slice A n c) n (ts.map Value.string) ∧ Below w.heap.size w w' := by
  subst h
  subst hn
  exact rterms_any q hq w
/-- Match, at texts that are not too long -/
theorem match_std (q : ByteArray) (A : Option Addr) (n c B : Nat) (xs : List ByteArray) (hq : q.size ≤ 1000000) (hxs : ∀ x ∈ xs, x.size < 4294967281) (w : World) (hx : Rd w B A (xs.map Value.string)) (hB : B ≤ w.heap.size) (hn : xs.length = n) (bn : n ≤ 9223372036854775807)
    (hm : MaxAt w) (h0 : 0 < w.heap.size) (r : Bool) (hr : matchF q xs = r) :
    Calls Try.prog 19 #[.string q, .slice A n c] w fun e w' => e = .returned (.bool r) ∧ Below w.heap.size w w' := by
  subst hr
  exact match_any (fun q w h => terms_any q w h) q A n c B xs hq (fun x hx t ht => has_ok x t (hxs x hx) (Nat.le_trans (termsF_le q t ht) (by omega))) w hx hB hn bn hm h0
theorem has_at (a b : ByteArray) (ha : a.size < 4294967281) (hb : b.size ≤ 140737488355328) (w : World) (hm : MaxAt w) (h0 : 0 < w.heap.size) (r : Bool) (hr : hasF a b = r) :
    Calls Try.prog 12 #[.string a, .string b] w fun e w' => e = .returned (.bool r) ∧ Below w.heap.size w w' := by
  subst hr
  exact has_any a b ha hb w hm h0
theorem comp_at (a b : ByteArray) (ha : a.size ≤ 140737488355328) (hb : b.size ≤ 140737488355328) (w : World) (r : Int) (hr : cmpF a b = r) :
    Calls Try.prog 14 #[.string a, .string b] w fun e w' => e = .returned (.int .i64 r) ∧ Below w.heap.size w w' := by
  subst hr
  exact comp_any a b ha hb w
theorem fold_at (s : ByteArray) (hs : s.size ≤ 281474976710656) (w : World) (r : ByteArray) (hr : foldS s = r) :
    Calls Try.prog 10 #[.string s] w fun e w' => e = .returned (.string r) ∧ Below w.heap.size w w' := by
  subst hr
  exact fold_any s hs w

theorem aw1 : termsF ⟨#[97, 100, 97, 32, 34, 103, 114, 97, 99, 101, 32, 104, 111, 112, 112, 101, 114, 34, 120]⟩ = [⟨#[97, 100, 97]⟩, ⟨#[103, 114, 97, 99, 101, 32, 104, 111, 112, 112, 101, 114]⟩, ⟨#[120]⟩] := by decide +kernel
theorem aw2 : matchF ⟨#[65, 68, 65, 32, 104, 111, 112]⟩ [⟨#[71, 114, 97, 99, 101, 32, 72, 111, 112, 112, 101, 114]⟩, ⟨#[65, 100, 97, 32, 76]⟩] = true := by decide +kernel
theorem aw3 : cmpF ⟨#[66]⟩ ⟨#[97]⟩ = 1 := by decide +kernel
theorem aw4 : foldS ⟨#[97, 66, 195, 137]⟩ = ⟨#[97, 98, 195, 137]⟩ := by decide +kernel
theorem aw5 : hasF ⟨#[97, 98]⟩ ⟨#[99]⟩ = false := by decide +kernel

set_option maxHeartbeats 1000000 in
theorem awake_any (w : World) (hm : MaxAt w) (h0 : 0 < w.heap.size) : Calls Try.prog 9 #[] w fun e w' => e = .returned (.bool true) ∧ Below w.heap.size w w' := by
  have Hm := Lib.hid hm
  clear hm
  go_enter Try.func9, Try.ntmps9
  go_wp2_with fail
  refine (terms_at _ (by decide) _ 3 aw1 rfl _).mono ?_
  rintro e w1 ⟨A1, c1, rfl, ho1, hb1⟩
  have z1 : w.heap.size ≤ w1.heap.size := hb1.size
  have HB1 := Lib.hid hb1
  have Hr1 := Lib.hid (Rd.of_own ho1)
  clear hb1 ho1
  go_wp2_with fail
  have hl1 := rd_lit w1 ([⟨#[97, 100, 97]⟩, ⟨#[103, 114, 97, 99, 101, 32, 104, 111, 112, 112, 101, 114]⟩, ⟨#[120]⟩].map Value.string) 9
  refine (same_any _ _ 3 3 _ _ (w1.heap.size + 1) [⟨#[97, 100, 97]⟩, ⟨#[103, 114, 97, 99, 101, 32, 104, 111, 112, 112, 101, 114]⟩, ⟨#[120]⟩] [⟨#[97, 100, 97]⟩, ⟨#[103, 114, 97, 99, 101, 32, 104, 111, 112, 112, 101, 114]⟩, ⟨#[120]⟩] _ ((Hr1.out.keep fun p hp => World.cell?_alloc_lt w1 _ p (by omega)).mono (by omega)) hl1 rfl rfl (by omega) (by omega)).mono ?_
  rintro e w2 ⟨rfl, hd2⟩
  have hb2 := hd2.below (B := w1.heap.size + 1)
  have z2 : w1.heap.size + 1 ≤ w2.heap.size := by have := hb2.size; simpa using this
  have HB2 := Lib.hid ((HB1.out.alloc (by omega) (.cells #[.string ⟨#[97, 100, 97]⟩, .string ⟨#[103, 114, 97, 99, 101, 32, 104, 111, 112, 112, 101, 114]⟩, .string ⟨#[120]⟩] 9)).trans (hb2.mono (by omega)))
  clear hl1 hb2 hd2
  go_wp2_with fail
  have hl2 := rd_lit w2 ([⟨#[71, 114, 97, 99, 101, 32, 72, 111, 112, 112, 101, 114]⟩, ⟨#[65, 100, 97, 32, 76]⟩].map Value.string) 9
  have hB3 := HB2.out.alloc (by omega) (.cells #[.string ⟨#[71, 114, 97, 99, 101, 32, 72, 111, 112, 112, 101, 114]⟩, .string ⟨#[65, 100, 97, 32, 76]⟩] 9)
  refine (match_std _ _ 2 2 (w2.heap.size + 1) [⟨#[71, 114, 97, 99, 101, 32, 72, 111, 112, 112, 101, 114]⟩, ⟨#[65, 100, 97, 32, 76]⟩] (by decide) (by intro x hx; simp at hx; rcases hx with rfl | rfl <;> decide) _ hl2 (by simp) rfl (by omega) (Hm.out.below hB3 h0) (by simp) _ aw2).mono ?_
  rintro e w3 ⟨rfl, hb3⟩
  have z3 : w2.heap.size + 1 ≤ w3.heap.size := by have := hb3.size; simpa using this
  have HB3 := Lib.hid (hB3.trans (hb3.mono (by simp; omega)))
  clear hl2 hB3 hb3
  go_wp2_with fail
  refine (comp_at _ _ (by decide) (by decide) _ _ aw3).mono ?_
  rintro e w4 ⟨rfl, hb4⟩
  have z4 : w3.heap.size ≤ w4.heap.size := hb4.size
  have HB4 := Lib.hid (HB3.out.trans (hb4.mono (by omega)))
  clear hb4
  go_wp2_with fail
  refine (fold_at _ (by decide) _ _ aw4).mono ?_
  rintro e w5 ⟨rfl, hb5⟩
  have z5 : w4.heap.size ≤ w5.heap.size := hb5.size
  have HB5 := Lib.hid (HB4.out.trans (hb5.mono (by omega)))
  clear hb5
  go_wp2_with fail
  refine (has_at _ _ (by decide) (by decide) _ (Hm.out.below HB5.out h0) (by omega) _ aw5).mono ?_
  rintro e w6 ⟨rfl, hb6⟩
  have HB6 := Lib.hid (HB5.out.trans (hb6.mono (by omega)))
  clear hb6
  go_wp2_with fail
  go_ret
  exact ⟨rfl, HB6.out⟩
end Go.Proofs.Ytebfnglhbfkkdaa
