import Derived.Test.YtgijjmcjobjoeaaA2
import Derived.Lib.SliceRun
namespace Go.Proofs.Ytgijjmcjobjoeaa
open Go.RowKit

theorem info9 : (Try.prog.info? 9).map (fun i => (i.zero, i.size, i.bytes)) = some (some (.string ByteArray.empty), 1, 16) := by kernel_rfl

/-- what is returned is a slice of the call's own, behind block B0, that holds the n texts xs -/
def OwnS (B0 : Nat) (w : World) (n : Nat) (xs : List ByteArray) (e : Ending) (w' : World) : Prop :=
  ∃ A c, e = .returned (.slice A n c) ∧ w'.ownsRow B0 9 1 (.slice A n c) n (xs.map Value.string) ∧ Below B0 w w'

set_option maxHeartbeats 400000 in
theorem clone_any (A : Option Addr) (n ca B : Nat) (xs : List ByteArray) (w : World) (hx : Rd w B A (xs.map Value.string))
    (hn : xs.length = n) (bn : n * 16 ≤ 140737488355328) (h0 : A = none → n = 0) (hB : B ≤ w.heap.size) :
    Calls Try.prog 30 #[.slice A n ca] w (OwnS w.heap.size w n xs) := by
  have Hn := Lib.hid hn
  have Hx := Lib.hid hx
  clear hx hn
  have heq := fun (w : World) (a : Option Addr) => Lib.run_eql_slice_nil (P := Try.prog) w 22 9 a n ca 0 0 Try.underlying22
  rcases A with _ | a
  · have hz := h0 rfl
    clear h0
    subst hz
    go_enter Try.func30, Try.ntmps30
    go_wp2
    go_ret
    have hnil : xs = [] := List.eq_nil_of_length_eq_zero Hn.out
    subst hnil
    exact ⟨none, 0, rfl, World.ownsRow_nil _ _ _ _, Below.refl _ _⟩
  · clear h0
    have hown := World.ownsRow_made (base := w.heap.size) (e := 9) (size := 1) w #[] 0 (Nat.le_refl _) (Nat.zero_le _) rfl
    go_enter Try.func30, Try.ntmps30
    go_wp2_with (at_builtin; refine wpList_app _ rfl _ _ 22 9 rfl w.heap.size _ 16 Try.underlying22 info9 rfl _ 0 [] rfl hown B _ n _ (xs.map Value.string) rfl ?c1 ?c2 (one_str xs) ?c3 ?c4 ?c5 ?_)
    case c1 => exact Hx.out.keep fun p hp => World.cell?_alloc_lt w _ p (by omega)
    case c2 => simpa using Hn.out
    case c3 => omega
    case c4 => simp only [maxLen]; omega
    case c5 => simp
    intro v' w1 hown1 hgrow
    go_wp2
    go_ret
    have hb := Below.own ((Below.refl w.heap.size w).alloc (Nat.le_refl _) _) hown hgrow (by simp) (Nat.le_refl _)
    obtain ⟨A', c', rfl⟩ := own_form hown1
    exact ⟨A', c', rfl, hown1, hb⟩
end Go.Proofs.Ytgijjmcjobjoeaa
