import Derived.Test.YtijpbfafkdpolaaQ1
import Derived.Test.YtijpbfafkdpolaaPS
import Derived.Test.YtijpbfafkdpolaaRows
import Derived.Test.YtijpbfafkdpolaaMem2
import Derived.WalkLawsBesides
import Derived.Laws.DeepStrings4
import Derived.Lib.Hide
namespace Go.Proofs.Ytijpbfafkdpolaa
open Go.RowKit Go.Shelf

theorem info9 : (Try.prog.info? 9).map (fun i => (i.zero, i.size, i.bytes)) = some (some (.string ByteArray.empty), 1, 16) := by kernel_rfl
theorem ret_sl {A : Option Addr} {n m c : Nat} (h : n = m) : Ending.returned (.slice A n c) = .returned (.slice A m c) := by rw [h]

/-- what the reference's Split leaves -/
def SplitPost (s : ByteArray) (c : UInt8) (w : World) (e : Ending) (w' : World) : Prop :=
  ∃ A k, e = .returned (.slice A (splitF s c).length k) ∧ w'.ownsRow w.heap.size 9 1 (.slice A (splitF s c).length k) (splitF s c).length ((splitF s c).map Value.string) ∧ Below w.heap.size w w'

set_option maxHeartbeats 1000000 in
theorem rsplit_any (s : ByteArray) (x : Int) (c : UInt8) (hx : (c.toNat : Int) = x) (hs : s.size ≤ 3200000) (w : World) :
    Calls Try.prog 23 #[.string s, .int .u8 x] w (SplitPost s c w) := by
  have Hx := Lib.hid hx
  clear hx
  have HT := Lib.hid (splitF_T s c)
  go_enter Try.func23, Try.ntmps23
  go_wp2
  go_loopw [5, 6, 7] (fun t5 t6 t7 wr => ∃ (k f m : Nat) (acc : List ByteArray), f ≤ k ∧ k ≤ s.size ∧ t6 = .int .i64 f ∧ t7 = .int .i64 k ∧ acc.length = m ∧ m ≤ k ∧ wr.ownsRow w.heap.size 9 1 t5 m (acc.map Value.string) ∧ Hid (splitF s c = acc ++ splitT s c f) ∧ Hid (NoC s c f k) ∧ Below w.heap.size w wr) (fun _ _ t7 _ => s.size - (intOf t7).toNat)
  case atStart => exact ⟨0, 0, 0, [], Nat.le_refl _, Nat.zero_le _, rfl, rfl, rfl, Nat.le_refl _, World.ownsRow_nil _ _ _ _, HT, Lib.hid (NoC.nil _ _ _), Below.refl _ _⟩
  case round =>
    obtain ⟨k, f, m, acc, hfk, hk, rfl, rfl, hm, hmk, hown, Hp, Hn, hb⟩ := hrel
    obtain ⟨A1, c1, rfl⟩ := own_form hown
    have zb := hb.size
    have Hbb := Lib.hid hb
    have Hown := Lib.hid hown
    have Hm := Lib.hid hm
    clear hb hown hm
    by_cases hlt : k < s.size
    · by_cases hxc : ((s[k]'hlt).toNat : Int) = x
      · have Hp2 : Hid (splitF s c = (acc ++ [s.extract f k]) ++ splitT s c (k + 1)) := Lib.hid (by rw [Hp.out, splitT_hit s c f k hfk hlt Hn.out (by rw [Hx.out]; exact hxc), List.append_assoc]; rfl)
        have b1 : (((s[k]'hlt).toNat : Int) == x) = true := beq_iff_eq.2 hxc
        clear hxc
        go_wp2_with (at_builtin; refine wpList_app _ rfl _ _ 22 9 rfl w.heap.size _ 16 Try.underlying22 info9 rfl _ m _ rfl (Hown.out.alloc _) (wr.heap.size + 1) _ 1 _ [.string (s.extract f k)] rfl (rd_new1 _ _ _) rfl (one_s1 _) ?c3 ?c4 ?c5 ?_)
        case c3 => omega
        case c4 => first | omega | (simp only [maxLen]; omega)
        case c5 => first | omega | (simp; omega)
        intro v' w1 hown1 hgrow
        have hb3 := Below.own (Hbb.out.alloc zb _) (Hown.out.alloc _) hgrow (by simp; omega) (Nat.le_refl _)
        have hown2 : w1.ownsRow w.heap.size 9 1 v' (m + 1) ((acc ++ [s.extract f k]).map Value.string) := by
          rw [List.map_append]; exact hown1
        have Hown2 := Lib.hid hown2
        clear hown1 hgrow hown2
        go_wp2
        go_roundw
        case rel => exact ⟨k + 1, k + 1, m + 1, _, Nat.le_refl _, by omega, by go_num, by go_num, by rw [List.length_append, Hm.out]; rfl, by omega, Hown2.out, Hp2, Lib.hid (NoC.nil _ _ _), hb3⟩
        case measure => simp [intOf]; omega
      · have Hn2 := Lib.hid (Hn.out.succ hlt (by rw [Hx.out]; exact hxc))
        have b1 : (((s[k]'hlt).toNat : Int) == x) = false := beq_eq_false_iff_ne.2 hxc
        clear hxc
        go_wp2
        go_roundw
        case rel => exact ⟨k + 1, f, m, acc, by omega, by omega, rfl, by go_num, Hm.out, by omega, Hown.out, Hp, Hn2, Hbb.out⟩
        case measure => simp [intOf]; omega
    · have Hp2 : Hid (splitF s c = acc ++ [s.extract f s.size]) := Lib.hid (by
        have hks : k = s.size := by omega
        rw [Hp.out, splitT_end s c f (by rw [← hks]; exact Hn.out)])
      go_wp2_with (at_builtin; refine wpList_app _ rfl _ _ 22 9 rfl w.heap.size _ 16 Try.underlying22 info9 rfl _ m _ rfl (Hown.out.alloc _) (wr.heap.size + 1) _ 1 _ [.string (s.extract f s.size)] rfl (rd_new1 _ _ _) rfl (one_s1 _) ?c3 ?c4 ?c5 ?_)
      case c3 => omega
      case c4 => first | omega | (simp only [maxLen]; omega)
      case c5 => first | omega | (simp; omega)
      intro v' w1 hown1 hgrow
      have hb3 := Below.own (Hbb.out.alloc zb _) (Hown.out.alloc _) hgrow (by simp; omega) (Nat.le_refl _)
      have hown2 : w1.ownsRow w.heap.size 9 1 v' (m + 1) ((splitF s c).map Value.string) := by
        rw [Hp2.out, List.map_append]; exact hown1
      have e1 : m + 1 = (splitF s c).length := by rw [Hp2.out, List.length_append, Hm.out]; rfl
      rw [e1] at hown2
      obtain ⟨A2, c2, rfl⟩ := own_form hown2
      have Hown2 := Lib.hid hown2
      clear hown1 hgrow hown2 e1
      go_wp2
      go_ret
      exact ⟨A2, c2, rfl, Hown2.out, hb3⟩
/-- the same, at known parts -/
theorem rsplit_at (s : ByteArray) (x : Int) (c : UInt8) (hx : (c.toNat : Int) = x) (hs : s.size ≤ 3200000) (l : List ByteArray) (n : Nat) (hl : splitF s c = l) (hn : l.length = n) (w : World) :
    Calls Try.prog 23 #[.string s, .int .u8 x] w fun e w' => ∃ A k, e = .returned (.slice A n k) ∧ w'.ownsRow w.heap.size 9 1 (.slice A n k) n (l.map Value.string) ∧ Below w.heap.size w w' := by
  subst hl
  subst hn
  exact rsplit_any s x c hx hs w
end Go.Proofs.Ytijpbfafkdpolaa
