import Derived.Test.YtebfnglhbfkkdaaF2
import Derived.Test.YtebfnglhbfkkdaaF4
namespace Go.Proofs.Ytebfnglhbfkkdaa
open Go.RowKit

theorem info9 : (Try.prog.info? 9).map (fun i => (i.zero, i.size, i.bytes)) = some (some (.string ByteArray.empty), 1, 16) := by kernel_rfl
theorem ret_sl {A : Option Addr} {n m c : Nat} (h : n = m) : Ending.returned (.slice A n c) = .returned (.slice A m c) := by rw [h]

/-- no byte of a stretch is a quote -/
def NoQ (q : ByteArray) (a e : Nat) : Prop := ∀ j (hj : j < q.size), a ≤ j → j < e → q[j]'hj ≠ 34
/-- no byte of a stretch is a quote or a blank -/
def NoQB (q : ByteArray) (a e : Nat) : Prop := ∀ j (hj : j < q.size), a ≤ j → j < e → q[j]'hj ≠ 32 ∧ q[j]'hj ≠ 34
theorem NoQ.nil (q : ByteArray) (a : Nat) : NoQ q a a := fun j _ h1 h2 => by omega
theorem NoQB.nil (q : ByteArray) (a : Nat) : NoQB q a a := fun j _ h1 h2 => by omega
theorem NoQ.succ {q : ByteArray} {a e : Nat} (h : NoQ q a e) (he : e < q.size) (hx : ((q[e]'he).toNat : Int) ≠ 34) : NoQ q a (e + 1) := fun j hj h1 h2 => by
  by_cases hje : j = e
  · subst hje
    intro hc
    rw [hc] at hx
    exact hx rfl
  · exact h j hj h1 (by omega)
theorem NoQB.succ {q : ByteArray} {a e : Nat} (h : NoQB q a e) (he : e < q.size) (hx : ((q[e]'he).toNat : Int) ≠ 32) (hy : ((q[e]'he).toNat : Int) ≠ 34) : NoQB q a (e + 1) := fun j hj h1 h2 => by
  by_cases hje : j = e
  · subst hje
    exact ⟨fun hc => hx (by rw [hc]; rfl), fun hc => hy (by rw [hc]; rfl)⟩
  · exact h j hj h1 (by omega)
theorem u8_eq {c : UInt8} {k : UInt8} (h : (c.toNat : Int) = (k.toNat : Int)) : c = k := UInt8.toNat_inj.1 (by omega)

theorem tT_space (q : ByteArray) (k : Nat) (h : k < q.size) (h1 : ((q[k]'h).toNat : Int) = 32) : termsT q k = termsT q (k + 1) := termsT_space q k h (u8_eq (k := 32) h1)
theorem tT_quote (q : ByteArray) (k e : Nat) (h : k < q.size) (h1 : ((q[k]'h).toNat : Int) = 34) (he : k + 1 ≤ e) (hen : e ≤ q.size) (hb : NoQ q (k + 1) e) (hs : ∀ hj : e < q.size, ((q[e]'hj).toNat : Int) = 34) :
    termsT q k = (if k + 1 < e then [q.extract (k + 1) e] else []) ++ termsT q (e + 1) :=
  termsT_quote q k e h (u8_eq (k := 34) h1) he hen hb (fun hj => u8_eq (k := 34) (hs hj))
theorem tT_word (q : ByteArray) (k e : Nat) (h : k < q.size) (h1 : ((q[k]'h).toNat : Int) ≠ 32) (h2 : ((q[k]'h).toNat : Int) ≠ 34) (he : k ≤ e) (hen : e ≤ q.size) (hb : NoQB q k e) (hs : ∀ hj : e < q.size, ((q[e]'hj).toNat : Int) = 32 ∨ ((q[e]'hj).toNat : Int) = 34) :
    termsT q k = q.extract k e :: termsT q e :=
  termsT_word q k e h (fun hc => h1 (by rw [hc]; rfl)) (fun hc => h2 (by rw [hc]; rfl)) he hen hb (fun hj => (hs hj).imp (u8_eq (k := 32)) (u8_eq (k := 34)))

/-- what has come up to k, and what comes yet, are the terms -/
def Parts (q : ByteArray) (acc : List ByteArray) (k : Nat) : Prop := termsF q = acc ++ termsT q k ∧ acc.length ≤ k
theorem Parts.zero (q : ByteArray) : Parts q [] 0 := ⟨rfl, Nat.le_refl _⟩
theorem Parts.over {q : ByteArray} {acc : List ByteArray} {k : Nat} (h : Parts q acc k) (hk : q.size ≤ k) : termsF q = acc := by
  rw [h.1, termsT_end q k hk, List.append_nil]
theorem Parts.space {q : ByteArray} {acc : List ByteArray} {k : Nat} (hp : Parts q acc k) (h : k < q.size) (h1 : ((q[k]'h).toNat : Int) = 32) : Parts q acc (k + 1) :=
  ⟨by rw [hp.1, tT_space q k h h1], by have := hp.2; omega⟩
theorem Parts.quote {q : ByteArray} {acc : List ByteArray} {k e : Nat} (hp : Parts q acc k) (h : k < q.size) (h1 : ((q[k]'h).toNat : Int) = 34) (he : k + 1 < e) (hen : e ≤ q.size) (hb : NoQ q (k + 1) e) (hs : ∀ hj : e < q.size, ((q[e]'hj).toNat : Int) = 34) :
    Parts q (acc ++ [q.extract (k + 1) e]) (e + 1) :=
  ⟨by rw [hp.1, tT_quote q k e h h1 (by omega) hen hb hs, if_pos he, List.append_assoc], by have := hp.2; rw [List.length_append, List.length_singleton]; omega⟩
theorem Parts.quote0 {q : ByteArray} {acc : List ByteArray} {k : Nat} (hp : Parts q acc k) (h : k < q.size) (h1 : ((q[k]'h).toNat : Int) = 34) (hs : ∀ hj : k + 1 < q.size, ((q[k + 1]'hj).toNat : Int) = 34) :
    Parts q acc (k + 1 + 1) :=
  ⟨by rw [hp.1, tT_quote q k (k + 1) h h1 (by omega) (by omega) (NoQ.nil _ _) hs, if_neg (by omega), List.nil_append], by have := hp.2; omega⟩
theorem Parts.word {q : ByteArray} {acc : List ByteArray} {k e : Nat} (hp : Parts q acc k) (h : k < q.size) (h1 : ((q[k]'h).toNat : Int) ≠ 32) (h2 : ((q[k]'h).toNat : Int) ≠ 34) (he : k < e) (hen : e ≤ q.size) (hb : NoQB q k e) (hs : ∀ hj : e < q.size, ((q[e]'hj).toNat : Int) = 32 ∨ ((q[e]'hj).toNat : Int) = 34) :
    Parts q (acc ++ [q.extract k e]) e :=
  ⟨by rw [hp.1, tT_word q k e h h1 h2 (by omega) hen hb hs, List.append_assoc]; rfl, by have := hp.2; rw [List.length_append, List.length_singleton]; omega⟩

/-- what a call of Terms leaves -/
def TermsPost (q : ByteArray) (w : World) (e : Ending) (w' : World) : Prop :=
  ∃ A c, e = .returned (.slice A (termsF q).length c) ∧ w'.ownsRow w.heap.size 9 1 (.slice A (termsF q).length c) (termsF q).length ((termsF q).map Value.string) ∧ Below w.heap.size w w'

set_option maxRecDepth 100000
set_option maxHeartbeats 4000000 in
theorem rterms_any (q : ByteArray) (hq : q.size ≤ 1000000) (w : World) : Calls Try.prog 18 #[.string q] w (TermsPost q w) := by
  go_enter Try.func18, Try.ntmps18
  go_wp2
  go_loopw [3, 4, 5] (fun t3 t4 _ wr => ∃ (k m : Nat) (acc : List ByteArray), k ≤ q.size + 1 ∧ t4 = .int .i64 k ∧ acc.length = m ∧ wr.ownsRow w.heap.size 9 1 t3 m (acc.map Value.string) ∧ Hid (Parts q acc k) ∧ Below w.heap.size w wr) (fun _ t4 _ _ => q.size + 1 - (intOf t4).toNat)
  case atStart => exact ⟨0, 0, [], Nat.zero_le _, rfl, rfl, World.ownsRow_nil _ _ _ _, Lib.hid (Parts.zero q), Below.refl _ _⟩
  case round =>
    obtain ⟨k, m, acc, hk, rfl, hm, hown, Hp, hb⟩ := hrel
    obtain ⟨A1, c1, rfl⟩ := own_form hown
    have zb := hb.size
    have Hbb := Lib.hid hb
    have Hown := Lib.hid hown
    have hmk : m ≤ k := by rw [← hm]; exact Hp.out.2
    have Hm := Lib.hid hm
    clear hb hown hm
    by_cases hlt : k < q.size
    · by_cases h32 : ((q[k]'hlt).toNat : Int) = 32
      · have Hp2 := Lib.hid (Hp.out.space hlt h32)
        go_wp2
        go_roundw
        case rel => exact ⟨k + 1, m, acc, by omega, by go_num, Hm.out, Hown.out, Hp2, Hbb.out⟩
        case measure => simp [intOf]; omega
      · by_cases h34 : ((q[k]'hlt).toNat : Int) = 34
        · go_wp2
          go_loopw [4] (fun t4 wi => ∃ e : Nat, k + 1 ≤ e ∧ e ≤ q.size ∧ t4 = .int .i64 e ∧ Hid (NoQ q (k + 1) e) ∧ wr = wi) (fun t4 _ => q.size - (intOf t4).toNat)
          case atStart => exact ⟨k + 1, Nat.le_refl _, by omega, by go_num, Lib.hid (NoQ.nil _ _), rfl⟩
          case round =>
            obtain ⟨e, he1, he2, rfl, Hq, rfl⟩ := hrel
            by_cases hst : ∃ hel : e < q.size, ((q[e]'hel).toNat : Int) ≠ 34
            · obtain ⟨hel, hx⟩ := hst
              have Hq2 := Lib.hid (Hq.out.succ hel hx)
              go_wp2
              go_roundw
              case rel => exact ⟨e + 1, by omega, by omega, by go_num, Hq2, trivial⟩
              case measure => simp [intOf]; omega
            · have Hs : Hid (∀ hj : e < q.size, ((q[e]'hj).toNat : Int) = 34) := Lib.hid (fun hj => by
                rcases Classical.em (((q[e]'hj).toNat : Int) = 34) with h | h
                · exact h
                · exact absurd ⟨hj, h⟩ hst)
              have hcase : ¬ e < q.size ∨ ∃ hel : e < q.size, ((q[e]'hel).toNat : Int) = 34 := by
                rcases Nat.lt_or_ge e q.size with h | h
                · exact .inr ⟨h, Hs.out h⟩
                · exact .inl (by omega)
              clear hst
              by_cases hke : k + 1 < e
              · have Hp2 := Lib.hid (Hp.out.quote hlt h34 hke he2 Hq.out Hs.out)
                rcases hcase with hel | ⟨hel, hx⟩
                all_goals
                  go_wp2_with (at_builtin; refine wpList_app _ rfl _ _ 26 9 rfl w.heap.size _ 16 Try.underlying26 info9 rfl _ m _ rfl (Hown.out.alloc _) (wr.heap.size + 1) _ 1 _ [.string (q.extract (k + 1) e)] rfl (rd_new1 _ _ _) rfl (one_s1 _) ?c3 ?c4 ?c5 ?_)
                  case c3 => omega
                  case c4 => first | omega | (simp only [maxLen]; omega)
                  case c5 => first | omega | (simp; omega)
                  intro v' w1 hown1 hgrow
                  have hb3 := Below.own (Hbb.out.alloc zb _) (Hown.out.alloc _) hgrow (by simp; omega) (Nat.le_refl _)
                  have hown2 : w1.ownsRow w.heap.size 9 1 v' (m + 1) ((acc ++ [q.extract (k + 1) e]).map Value.string) := by
                    rw [List.map_append]; exact hown1
                  have Hown2 := Lib.hid hown2
                  clear hown1 hgrow hown2
                  go_wp2
                  go_roundw
                  case rel => exact ⟨e + 1, m + 1, acc ++ [q.extract (k + 1) e], by omega, by go_num, by rw [List.length_append, Hm.out]; rfl, Hown2.out, Hp2, hb3⟩
                  case measure => simp [intOf]; omega
              · have hek : e = k + 1 := by omega
                subst hek
                have Hp2 := Lib.hid (Hp.out.quote0 hlt h34 Hs.out)
                rcases hcase with hel | ⟨hel, hx⟩
                all_goals
                  go_wp2
                  go_roundw
                  case rel => exact ⟨k + 1 + 1, m, acc, by omega, by go_num, Hm.out, Hown.out, Hp2, Hbb.out⟩
                  case measure => simp [intOf]; omega
        · go_wp2
          go_loopw [4] (fun t4 wi => ∃ e : Nat, k ≤ e ∧ e ≤ q.size ∧ t4 = .int .i64 e ∧ Hid (NoQB q k e) ∧ wr = wi) (fun t4 _ => q.size - (intOf t4).toNat)
          case atStart => exact ⟨k, Nat.le_refl _, by omega, rfl, Lib.hid (NoQB.nil _ _), rfl⟩
          case round =>
            obtain ⟨e, he1, he2, rfl, Hq, rfl⟩ := hrel
            by_cases hst : ∃ hel : e < q.size, ((q[e]'hel).toNat : Int) ≠ 32 ∧ ((q[e]'hel).toNat : Int) ≠ 34
            · obtain ⟨hel, hx, hy⟩ := hst
              have Hq2 := Lib.hid (Hq.out.succ hel hx hy)
              have b1 : (((q[e]'hel).toNat : Int) != 32) = true := bne_iff_ne.2 hx
              have b2 : (((q[e]'hel).toNat : Int) != 34) = true := bne_iff_ne.2 hy
              have b3 : ((((q[e]'hel).toNat : Int) != 32) && (((q[e]'hel).toNat : Int) != 34)) = true := by rw [b1, b2]; rfl
              go_wp2
              go_roundw
              case rel => exact ⟨e + 1, by omega, by omega, by go_num, Hq2, trivial⟩
              case measure => simp [intOf]; omega
            · have Hs : Hid (∀ hj : e < q.size, ((q[e]'hj).toNat : Int) = 32 ∨ ((q[e]'hj).toNat : Int) = 34) := Lib.hid (fun hj => by
                rcases Classical.em (((q[e]'hj).toNat : Int) = 32) with h | h
                · exact .inl h
                · rcases Classical.em (((q[e]'hj).toNat : Int) = 34) with h' | h'
                  · exact .inr h'
                  · exact absurd ⟨hj, h, h'⟩ hst)
              have hcase : ¬ e < q.size ∨ (∃ hel : e < q.size, ((q[e]'hel).toNat : Int) = 32) ∨ (∃ hel : e < q.size, ((q[e]'hel).toNat : Int) = 34) := by
                rcases Nat.lt_or_ge e q.size with h | h
                · rcases Hs.out h with h' | h'
                  · exact .inr (.inl ⟨h, h'⟩)
                  · exact .inr (.inr ⟨h, h'⟩)
                · exact .inl (by omega)
              have hke : k < e := by
                rcases Nat.lt_or_ge k e with h | h
                · exact h
                · have : k = e := by omega
                  subst this
                  exact absurd ⟨hlt, h32, h34⟩ hst
              clear hst
              have Hp2 := Lib.hid (Hp.out.word hlt h32 h34 hke he2 Hq.out Hs.out)
              rcases hcase with hel | ⟨hel, hx⟩ | ⟨hel, hx⟩
              · have b0 := hel
                go_wp2_with (at_builtin; refine wpList_app _ rfl _ _ 26 9 rfl w.heap.size _ 16 Try.underlying26 info9 rfl _ m _ rfl (Hown.out.alloc _) (wr.heap.size + 1) _ 1 _ [.string (q.extract k e)] rfl (rd_new1 _ _ _) rfl (one_s1 _) ?c3 ?c4 ?c5 ?_)
                case c3 => omega
                case c4 => first | omega | (simp only [maxLen]; omega)
                case c5 => first | omega | (simp; omega)
                intro v' w1 hown1 hgrow
                have hb3 := Below.own (Hbb.out.alloc zb _) (Hown.out.alloc _) hgrow (by simp; omega) (Nat.le_refl _)
                have hown2 : w1.ownsRow w.heap.size 9 1 v' (m + 1) ((acc ++ [q.extract k e]).map Value.string) := by
                  rw [List.map_append]; exact hown1
                have Hown2 := Lib.hid hown2
                clear hown1 hgrow hown2
                go_wp2
                go_roundw
                case rel => exact ⟨e, m + 1, acc ++ [q.extract k e], by omega, by go_num, by rw [List.length_append, Hm.out]; rfl, Hown2.out, Hp2, hb3⟩
                case measure => simp [intOf]; omega
              · have b1 : (((q[e]'hel).toNat : Int) != 32) = false := by rw [hx]; rfl
                have b3 : ((((q[e]'hel).toNat : Int) != 32) && (((q[e]'hel).toNat : Int) != 34)) = false := by rw [b1]; rfl
                go_wp2_with (at_builtin; refine wpList_app _ rfl _ _ 26 9 rfl w.heap.size _ 16 Try.underlying26 info9 rfl _ m _ rfl (Hown.out.alloc _) (wr.heap.size + 1) _ 1 _ [.string (q.extract k e)] rfl (rd_new1 _ _ _) rfl (one_s1 _) ?c3 ?c4 ?c5 ?_)
                case c3 => omega
                case c4 => first | omega | (simp only [maxLen]; omega)
                case c5 => first | omega | (simp; omega)
                intro v' w1 hown1 hgrow
                have hb3 := Below.own (Hbb.out.alloc zb _) (Hown.out.alloc _) hgrow (by simp; omega) (Nat.le_refl _)
                have hown2 : w1.ownsRow w.heap.size 9 1 v' (m + 1) ((acc ++ [q.extract k e]).map Value.string) := by
                  rw [List.map_append]; exact hown1
                have Hown2 := Lib.hid hown2
                clear hown1 hgrow hown2
                go_wp2
                go_roundw
                case rel => exact ⟨e, m + 1, acc ++ [q.extract k e], by omega, by go_num, by rw [List.length_append, Hm.out]; rfl, Hown2.out, Hp2, hb3⟩
                case measure => simp [intOf]; omega
              · have b1 : (((q[e]'hel).toNat : Int) != 32) = true := by rw [hx]; rfl
                have b2 : (((q[e]'hel).toNat : Int) != 34) = false := by rw [hx]; rfl
                have b3 : ((((q[e]'hel).toNat : Int) != 32) && (((q[e]'hel).toNat : Int) != 34)) = false := by rw [b2, Bool.and_false]
                go_wp2_with (at_builtin; refine wpList_app _ rfl _ _ 26 9 rfl w.heap.size _ 16 Try.underlying26 info9 rfl _ m _ rfl (Hown.out.alloc _) (wr.heap.size + 1) _ 1 _ [.string (q.extract k e)] rfl (rd_new1 _ _ _) rfl (one_s1 _) ?c3 ?c4 ?c5 ?_)
                case c3 => omega
                case c4 => first | omega | (simp only [maxLen]; omega)
                case c5 => first | omega | (simp; omega)
                intro v' w1 hown1 hgrow
                have hb3 := Below.own (Hbb.out.alloc zb _) (Hown.out.alloc _) hgrow (by simp; omega) (Nat.le_refl _)
                have hown2 : w1.ownsRow w.heap.size 9 1 v' (m + 1) ((acc ++ [q.extract k e]).map Value.string) := by
                  rw [List.map_append]; exact hown1
                have Hown2 := Lib.hid hown2
                clear hown1 hgrow hown2
                go_wp2
                go_roundw
                case rel => exact ⟨e, m + 1, acc ++ [q.extract k e], by omega, by go_num, by rw [List.length_append, Hm.out]; rfl, Hown2.out, Hp2, hb3⟩
                case measure => simp [intOf]; omega
    · have Hres := Lib.hid (Hp.out.over (by omega))
      go_wp2
      go_ret
      have e1 : (termsF q).length = m := by rw [Hres.out]; exact Hm.out
      refine ⟨A1, c1, ret_sl e1.symm, ?_, Hbb.out⟩
      rw [e1, Hres.out]
      exact Hown.out
end Go.Proofs.Ytebfnglhbfkkdaa
