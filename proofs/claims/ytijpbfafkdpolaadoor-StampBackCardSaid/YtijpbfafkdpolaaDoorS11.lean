import Derived.Test.YtijpbfafkdpolaaDoorS10
import Derived.Test.YtijpbfafkdpolaaDoorMem2
import Derived.Laws.OwnMore
namespace Go.Proofs.YtijpbfafkdpolaaDoor
open Go.RowKit Go.Shelf

theorem info5 : (Tryd.prog.info? 5).map (fun i => (i.zero, i.size, i.bytes)) = some (some (.int .u8 0), 1, 1) := by kernel_rfl
/-- the last k digits -/
def digsL (x : Int) : Nat → List Int
  | 0 => []
  | k + 1 => digsL (x / 10) k ++ [48 + x % 10]
/-- x with its last k digits taken off -/
def offD (x : Int) : Nat → Int
  | 0 => x
  | k + 1 => offD x k / 10
theorem offD_bd (x : Int) (h0 : 0 ≤ x) (h1 : x ≤ 9999) : ∀ k, 0 ≤ offD x k ∧ offD x k ≤ 9999
  | 0 => ⟨h0, h1⟩
  | k + 1 => by have := offD_bd x h0 h1 k; simp only [offD]; omega
theorem digsL_len (x : Int) : ∀ k, (digsL x k).length = k
  | 0 => rfl
  | k + 1 => by simp only [digsL]; rw [List.length_append, digsL_len (x / 10) k]; rfl
theorem offD_div (x : Int) : ∀ k, offD (x / 10) k = offD x (k + 1)
  | 0 => rfl
  | k + 1 => by rw [offD, offD_div x k]; rfl
theorem digsL_step (x : Int) : ∀ k, digsL x (k + 1) = (48 + offD x k % 10) :: digsL x k
  | 0 => rfl
  | k + 1 => by
    rw [digsL, digsL_step (x / 10) k, offD_div]
    rfl
theorem digs_two (x : Int) : digsL x 2 = twoL x := rfl
theorem digs_four (x : Int) : digsL x 4 = fourL x := by
  unfold digsL digsL digsL digsL digsL fourL
  simp only [List.nil_append, List.cons_append, List.cons.injEq, and_true]
  omega
theorem conv_own {w : World} {B0 n : Nat} {A : Option Addr} {c : Nat} {xs : List Int} (h : w.ownsRow B0 5 1 (.slice A n c) n (xs.map (Value.int .u8))) :
    (convert 34 9 (.slice A n c)).run Tryd.prog w = .ok (.string (strOfNums xs)) w := by
  have hl := h.1
  rw [List.length_map] at hl
  rcases h.2 with ⟨hv, h0⟩ | ⟨g, cap, cur, hv, _⟩
  · obtain ⟨hA, hn, hc⟩ := Value.slice.inj hv
    subst hA
    have hx : xs = [] := List.eq_nil_of_length_eq_zero (by omega)
    subst hx
    exact run_convert_bytes_nil w 34 5 Tryd.underlying34 Tryd.underlying5 n c 9 Tryd.underlying9
  · obtain ⟨hA, hn, hc⟩ := Value.slice.inj hv
    subst hA
    refine run_convert_bytes_arg w 34 5 Tryd.underlying34 Tryd.underlying5 g 0 n c xs (by omega) ?_ 9 Tryd.underlying9
    intro i hi
    have := h.cells (g := g) rfl i (.int .u8 xs[i]) (by simp [show i < xs.length by omega])
    rw [Addr.add_lit] at this
    rw [this, List.getD, List.getElem?_eq_getElem (by omega)]
    rfl
theorem ints_one (k : IntKind) (xs : List Int) : ∀ u ∈ xs.map (Value.int k), u.oneCell' = true := by
  intro u hu; obtain ⟨x, _, rfl⟩ := List.mem_map.1 hu; rfl

set_option maxHeartbeats 2000000 in
theorem digits_any (x : Int) (m : Nat) (h0 : 0 ≤ x) (h1 : x ≤ 9999) (hm : m ≤ 4) (w : World) : Calls Tryd.prog 32 #[.int .i64 x, .int .i64 m] w fun e w' => e = .returned (.string (strOfNums (digsL x m))) ∧ Below w.heap.size w w' := by
  go_enter Tryd.func32, Tryd.ntmps32
  go_wp2_with fail
  go_loopw [0, 5, 6] (fun t0 t5 t6 wr => ∃ (k : Nat) (y : Int), k ≤ m ∧ t0 = .int .i64 y ∧ t6 = .int .i64 k ∧ 0 ≤ y ∧ y ≤ 9999 ∧ Hid (y = offD x k) ∧ Hid (wr.ownsRow w.heap.size 5 1 t5 k ((digsL x k).map (Value.int .u8))) ∧ Below w.heap.size w wr) (fun _ _ t6 _ => m - (intOf t6).toNat)
  case atStart => exact ⟨0, x, Nat.zero_le _, rfl, rfl, h0, h1, Lib.hid rfl, Lib.hid (World.ownsRow_nil _ _ _ _), Below.refl _ _⟩
  case round =>
    obtain ⟨k, y, hk, rfl, rfl, y0, y1, Hy, Hown, hbw⟩ := hrel
    obtain ⟨A1, c1, rfl⟩ := own_form Hown.out
    have Hbw := Lib.hid hbw
    have zb := hbw.size
    clear hbw
    by_cases hlt : k < m
    · have hown0 := World.ownsRow_lit (base := w.heap.size) (e := 5) (size := 1) wr #[.int .u8 (48 + y % 10)] 1 zb (by decide) rfl
      have Hrd := Lib.hid ((Rd.of_own Hown.out).below ((Below.refl wr.heap.size wr).alloc (Nat.le_refl _) (.cells #[.int .u8 (48 + y % 10)] 5)))
      have Hl := Lib.hid (digsL_len x k)
      have Hst := Lib.hid (digsL_step x k)
      have Hbz := Lib.hid (Hbw.out.alloc zb (.cells #[.int .u8 (48 + y % 10)] 5))
      have Hsz : Hid (w.heap.size ≤ (wr.alloc (.cells #[.int .u8 (48 + y % 10)] 5)).heap.size) := Lib.hid (by simp; omega)
      have Hown0 := Lib.hid hown0
      clear hown0
      go_wp2_with (at_builtin; refine wpList_app _ rfl _ _ 34 5 rfl w.heap.size _ 1 Tryd.underlying34 info5 rfl _ 1 _ rfl Hown0.out wr.heap.size _ k _ ((digsL x k).map (Value.int .u8)) rfl Hrd.out ?c2 (ints_one .u8 _) ?c3 ?c4 Hsz.out ?_)
      case c2 => first | exact Hl.out | (rw [List.length_map]; exact Hl.out)
      case c3 => omega
      case c4 => first | omega | (simp only [maxLen]; omega)
      intro v' w2 hown2 hgrow
      have hb3 := Below.own Hbz.out Hown0.out hgrow Hsz.out (Nat.le_refl _)
      have hown3 : w2.ownsRow w.heap.size 5 1 v' (k + 1) ((digsL x (k + 1)).map (Value.int .u8)) := by
        rw [Hst.out, ← Hy.out, List.map_cons, Nat.add_comm k 1]
        exact hown2
      have Hown3 := Lib.hid hown3
      have Hy2 : Hid (y / 10 = offD x (k + 1)) := Lib.hid (by rw [Hy.out]; rfl)
      clear hown2 hgrow hown3
      go_wp2_with fail
      go_roundw
      case rel => exact ⟨k + 1, y / 10, by omega, by go_num, by go_num, by omega, by omega, Hy2, Hown3, hb3⟩
      case measure => simp [intOf]; omega
    · obtain rfl : k = m := by omega
      have hcv := conv_own Hown.out
      go_wp2_with fail
      go_ret
      exact ⟨rfl, Hbw.out⟩
end Go.Proofs.YtijpbfafkdpolaaDoor
