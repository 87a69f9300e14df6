import Derived.Test.YtebfnglhbfkkdaaF16
namespace Go.Proofs.Ytebfnglhbfkkdaa
open Go.RowKit

theorem tx : termsF ⟨#[120]⟩ = [⟨#[120]⟩] := by decide +kernel
/-- what the loop that spoils a's places leaves -/
def Spoil (n1 n2 : Nat) (A2 : Option Addr) (m c2 : Nat) (w4 wr : World) : Prop :=
  (∃ ys, wr.ownsRow n1 9 1 (.slice A2 m c2) m ys) ∧ Below n1 w4 wr ∧ ∀ k, n2 ≤ k → wr.heap[k]? = w4.heap[k]?
theorem Spoil.set {n1 n2 m c2 g : Nat} {w4 wr : World} (h : Spoil n1 n2 (some ⟨g, 0, none⟩) m c2 w4 wr) (hg1 : n1 ≤ g) (hg2 : g < n2) (k : Nat) (v : Value) : Spoil n1 n2 (some ⟨g, 0, none⟩) m c2 w4 (wr.setCell ⟨g, k, none⟩ v) := by
  obtain ⟨⟨ys, hown⟩, hb, hk⟩ := h
  exact ⟨⟨_, (hown.stored k v).1⟩, hb.setCell (p := ⟨g, k, none⟩) hg1 v, fun j hj => (Below.heap_setCell wr _ v j (by show j ≠ g; omega)).trans (hk j hj)⟩
theorem fx : foldS ⟨#[120]⟩ = ⟨#[120]⟩ := by decide +kernel

set_option maxHeartbeats 2000000 in
theorem foldKeeps_walk (q : ByteArray) (A : Option Addr) (n ca : Nat) (xs : List ByteArray) (w : World) (hq : q.size ≤ 140737488351232) (hx : Rd w w.heap.size A (xs.map Value.string))
    (hn : xs.length = n) (_hcap : n ≤ ca) (_hre : ca * 16 ≤ 140737488351232) (_he : A = none → n = 0) (hs : ∀ x ∈ xs, x.size ≤ 140737488351232) (hm : MaxAt w) (h0 : 0 < w.heap.size) :
    Calls Try.prog 8 #[.string q, .slice A n ca] w fun e w' => e = .returned (.bool true) ∧ Below w.heap.size w w' := by
  have Hm := Lib.hid hm
  have Hx := Lib.hid hx
  have Hn := Lib.hid hn
  have Hs := Lib.hid hs
  clear hm hx hn hs
  by_cases h1 : 5000 < q.size
  · go_enter Try.func8, Try.ntmps8
    go_wp2_with fail
    refine (awake_any _ Hm.out h0).mono ?_
    rintro e w1 ⟨rfl, hb1⟩
    go_wp2_with fail
    go_ret
    exact ⟨rfl, hb1⟩
  · by_cases h2 : 50 < n
    · go_enter Try.func8, Try.ntmps8
      go_wp2_with fail
      refine (awake_any _ Hm.out h0).mono ?_
      rintro e w1 ⟨rfl, hb1⟩
      go_wp2_with fail
      go_ret
      exact ⟨rfl, hb1⟩
    · have hlen := termsF_len q
      obtain ⟨ts, hts⟩ : ∃ ts, termsF q = ts := ⟨_, rfl⟩
      rw [hts] at hlen
      have Hts := Lib.hid hts
      clear hts
      obtain ⟨m, hm1⟩ : ∃ m, ts.length = m := ⟨_, rfl⟩
      rw [hm1] at hlen
      have Hm1 := Lib.hid hm1
      clear hm1
      have Hlen := Lib.hid hlen
      have hm5 : m ≤ 5000 := by omega
      clear hlen
      have hown := World.ownsRow_nil w w.heap.size 9 1
      go_enter Try.func8, Try.ntmps8
      go_wp2_with (at_builtin; refine wpList_app _ rfl _ _ 26 9 rfl w.heap.size _ 16 Try.underlying26 info9 rfl _ 0 [] rfl hown w.heap.size _ n _ (xs.map Value.string) rfl Hx.out ?c2 (one_str xs) ?c3 ?c4 ?c5 ?_)
      case c2 => simpa using Hn.out
      case c3 => omega
      case c4 => first | omega | (simp only [maxLen]; omega)
      case c5 => omega
      intro v' w1 hown1 hgrow
      have hb1 := Below.own (Below.refl w.heap.size _) hown hgrow (Nat.le_refl _) (Nat.le_refl _)
      clear hown hgrow
      obtain ⟨A1, c1, rfl⟩ := own_form hown1
      have z1 : w.heap.size ≤ w1.heap.size := hb1.size
      have HB1 := Lib.hid hb1
      have Hw1 := Lib.hid (Rd.of_own hown1)
      clear hb1 hown1
      go_wp2_with fail
      refine (terms_at q (by omega) _ m Hts.out Hm1.out _).mono ?_
      rintro e w2 ⟨A2, c2, rfl, ho2, hb2⟩
      have z2 : w1.heap.size ≤ w2.heap.size := hb2.size
      have HB2 := Lib.hid (HB1.out.trans (hb2.mono (by omega)))
      have Hw2 := Lib.hid (Hw1.out.below hb2)
      have Ho2 := Lib.hid ho2
      have HA2 : Hid (0 < m → ∃ g, A2 = some ⟨g, 0, none⟩ ∧ w1.heap.size ≤ g ∧ g < w2.heap.size) := Lib.hid (fun h => by
        rcases ho2.2 with ⟨_, h0⟩ | ⟨g, cap, cur, hv, hg, hh, _⟩
        · omega
        · injection hv with hA _ _
          exact ⟨g, hA, hg, (Array.getElem?_eq_some_iff.1 hh).1⟩)
      clear hb2 ho2
      go_wp2_with fail
      refine (terms_at q (by omega) _ m Hts.out Hm1.out _).mono ?_
      rintro e w3 ⟨A3, c3, rfl, ho3, hb3⟩
      have z3 : w2.heap.size ≤ w3.heap.size := hb3.size
      have HB3 := Lib.hid (HB2.out.trans (hb3.mono (by omega)))
      have Hw3 := Lib.hid (Hw2.out.below (hb3.mono (by omega)))
      have Ho23 := Lib.hid (own_below Ho2.out hb3 (Nat.le_refl _))
      have Ho3 := Lib.hid ho3
      have Hr3 := Lib.hid (Rd.of_own ho3)
      clear hb3 ho3 Ho2
      have Hx3 := Lib.hid (Hx.out.below HB3.out)
      have Hok : Hid (∀ x ∈ xs, ∀ t ∈ termsF ⟨#[120]⟩, HasOk x t) := Lib.hid (fun x hx t ht => by
        rw [tx, List.mem_singleton] at ht
        subst ht
        exact has_one x _ 120 (by have := Hs.out x hx; omega) (by decide) fx)
      go_wp2_with fail
      refine (match_any (fun q w h => terms_any q w h) ⟨#[120]⟩ A n ca w.heap.size xs (by decide) Hok.out _ Hx3.out (by omega) Hn.out (by omega) (Hm.out.below HB3.out h0) (by omega)).mono ?_
      rintro e w4 ⟨rfl, hb4⟩
      have z4 : w3.heap.size ≤ w4.heap.size := hb4.size
      have HB4 := Lib.hid (HB3.out.trans (hb4.mono (by omega)))
      have Hw4 := Lib.hid (Hw3.out.below (hb4.mono (by omega)))
      have Ho24 := Lib.hid (own_below Ho23.out hb4 (Nat.le_refl _))
      have Ho34 := Lib.hid (own_below Ho3.out hb4 (Nat.le_refl _))
      clear hb4 Ho23 Ho3 Hr3 Hx3 Hok
      go_wp2_with fail
      go_loopw [8] (fun i wr => ∃ k : Nat, k ≤ m ∧ i = .int .i64 k ∧ Hid (Spoil w1.heap.size w2.heap.size A2 m c2 w4 wr)) (fun i _ => m - (intOf i).toNat)
      case atStart => exact ⟨0, Nat.zero_le _, rfl, Lib.hid ⟨⟨_, Ho24.out⟩, Below.refl _ _, fun _ _ => rfl⟩⟩
      case round =>
        obtain ⟨k, hk, rfl, Hsp⟩ := hrel
        by_cases hlt : k < m
        · obtain ⟨g, rfl, hg1, hg2⟩ := HA2.out (by omega)
          have Hsp2 := Lib.hid (Hsp.out.set hg1 hg2 k (.string ⟨#[115, 112, 111, 105, 108, 116]⟩))
          obtain ⟨⟨ys, hown⟩, _, _⟩ := Hsp.out
          have hly := hown.1
          have h1 := hown.cellAt k (by omega)
          rw [List.getElem?_eq_getElem (by omega)] at h1
          have h2 := hown.frozenAt k
          clear hown
          go_wp2
          go_roundw
          case rel => exact ⟨k + 1, by omega, by go_num, Hsp2⟩
          case measure => simp [intOf]; omega
        · have zr : w4.heap.size ≤ wr.heap.size := Hsp.out.2.1.size
          have HBr := Lib.hid (HB4.out.trans (Hsp.out.2.1.mono (by omega)))
          have Hwr := Lib.hid (Hw4.out.below Hsp.out.2.1)
          have Hr3 := Lib.hid (Rd.of_own (own_keep Ho34.out Hsp.out.2.2))
          clear Ho34 Ho24 Hsp
          go_wp2_with fail
          refine (awake_any _ (Hm.out.below HBr.out h0) (by omega)).mono ?_
          rintro e w5 ⟨rfl, hb5⟩
          have z5 : wr.heap.size ≤ w5.heap.size := hb5.size
          have HB5 := Lib.hid (HBr.out.trans (hb5.mono (by omega)))
          have Hw5 := Lib.hid (Hwr.out.below (hb5.mono (by omega)))
          have Hr35 := Lib.hid (Hr3.out.below hb5)
          clear hb5
          go_wp2_with fail
          refine (rterms_at q (by omega) _ m Hts.out Hm1.out _).mono ?_
          rintro e w6 ⟨A6, c6, rfl, ho6, hb6⟩
          have z6 : w5.heap.size ≤ w6.heap.size := hb6.size
          have HB6 := Lib.hid (HB5.out.trans (hb6.mono (by omega)))
          have Hw6 := Lib.hid (Hw5.out.below (hb6.mono (by omega)))
          have Hr36 := Lib.hid ((Hr35.out.below (hb6.mono (by omega))).mono (B' := w6.heap.size) (by omega))
          have Hr6 := Lib.hid (Rd.of_own ho6)
          clear hb6 ho6
          go_wp2_with fail
          refine (same_any _ _ m m _ _ w6.heap.size ts ts _ Hr36.out Hr6.out Hm1.out Hm1.out (by omega) (by omega)).mono ?_
          rintro e w7 ⟨rfl, hd7⟩
          have z7 : w6.heap.size ≤ w7.heap.size := (hd7.below (B := w6.heap.size)).size
          have HB7 := Lib.hid (HB6.out.trans (hd7.below (B := w.heap.size)))
          have Hw7 := Lib.hid ((Hw6.out.below (hd7.below (B := w1.heap.size))).mono (B' := w7.heap.size) (by omega))
          have Hx7 := Lib.hid ((Hx.out.below HB7.out).mono (B' := w7.heap.size) (by omega))
          clear hd7
          rw [decide_eq_true (rfl : ts = ts)]
          go_wp2_with fail
          refine (same_any _ _ n n _ _ w7.heap.size xs xs _ Hw7.out Hx7.out Hn.out Hn.out (by omega) (by omega)).mono ?_
          rintro e w8 ⟨rfl, hd8⟩
          have HB8 := Lib.hid (HB7.out.trans (hd8.below (B := w.heap.size)))
          clear hd8
          rw [decide_eq_true (rfl : xs = xs)]
          go_wp2_with fail
          go_ret
          exact ⟨rfl, HB8.out⟩
end Go.Proofs.Ytebfnglhbfkkdaa
