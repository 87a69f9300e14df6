import Derived.Test.YtgijjmcjobjoeaaA1
namespace Go.Proofs.Ytgijjmcjobjoeaa
open Go.RowKit

/-- the place of the first v; the length, if there is none -/
def idxN (v : ByteArray) : List ByteArray → Nat
  | [] => 0
  | x :: l => if x = v then 0 else idxN v l + 1
/-- the place of the first v, or -1 -/
def idxF (xs : List ByteArray) (v : ByteArray) : Int := if idxN v xs < xs.length then (idxN v xs : Nat) else -1

theorem idxN_le (v : ByteArray) (xs : List ByteArray) : idxN v xs ≤ xs.length := by
  induction xs with
  | nil => simp [idxN]
  | cons x l ih => simp only [idxN]; split <;> simp; omega
theorem idxN_miss {v : ByteArray} {xs : List ByteArray} (h : v ∉ xs) : idxN v xs = xs.length := by
  induction xs with
  | nil => rfl
  | cons x l ih =>
    simp only [List.mem_cons, not_or] at h
    simp only [idxN]
    rw [if_neg (fun e => h.1 e.symm), ih h.2, List.length_cons]
theorem idxN_hit {v : ByteArray} {xs : List ByteArray} : ∀ {k : Nat} (lx : k < xs.length), v ∉ xs.take k → xs[k] = v → idxN v xs = k := by
  induction xs with
  | nil => intro k lx; simp at lx
  | cons x l ih =>
    intro k lx h0 h1
    cases k with
    | zero => simp only [List.getElem_cons_zero] at h1; simp [idxN, h1]
    | succ k =>
      simp only [List.take_succ_cons, List.mem_cons, not_or] at h0
      simp only [List.getElem_cons_succ] at h1
      simp only [idxN]
      rw [if_neg (fun e => h0.1 e.symm), ih (by simpa using lx) h0.2 h1]
theorem idxF_hit {xs : List ByteArray} {v : ByteArray} {k : Nat} (lx : k < xs.length) (h0 : v ∉ xs.take k) (h1 : xs[k] = v) : idxF xs v = (k : Int) := by
  unfold idxF
  rw [idxN_hit lx h0 h1, if_pos lx]
theorem idxF_miss {xs : List ByteArray} {v : ByteArray} (h : v ∉ xs) : idxF xs v = -1 := by
  unfold idxF; rw [idxN_miss h, if_neg (by omega)]
theorem notMem_step {α : Type} {xs : List α} {v : α} {k : Nat} (lx : k < xs.length) (h0 : v ∉ xs.take k) (h1 : v ≠ xs[k]) : v ∉ xs.take (k + 1) := by
  rw [take_succ_eq xs k lx, List.mem_append]
  rintro (h | h)
  · exact h0 h
  · exact h1 (List.mem_singleton.1 h)

set_option maxHeartbeats 400000 in
theorem idx_any (A : Option Addr) (n ca B : Nat) (xs : List ByteArray) (v : ByteArray) (w : World) (hx : Rd w B A (xs.map Value.string))
    (hn : xs.length = n) (bn : n ≤ 9223372036854775807) :
    Calls Try.prog 29 #[.slice A n ca, .string v] w fun e w' => e = .returned (.int .i64 (idxF xs v)) ∧ w = w' := by
  have Hn := Lib.hid hn
  have Hx := Lib.hid hx
  clear hx hn
  go_enter Try.func29, Try.ntmps29
  go_wp2
  go_loop [8] (fun i => ∃ k : Nat, k ≤ n ∧ i = .int .i64 k ∧ v ∉ xs.take k) (fun i => n - (intOf i).toNat)
  case atStart => exact ⟨0, Nat.zero_le _, rfl, by simp⟩
  case round =>
    obtain ⟨k, hk, rfl, he⟩ := hrel
    have He := Lib.hid he
    clear he
    by_cases hlt : k < n
    · have lx : k < xs.length := by rw [Hn.out]; exact hlt
      obtain ⟨b, off, rfl, _, hc⟩ := Hx.out.at_ (by simp; omega)
      have h1 := hc k (.string xs[k]) (by simp [lx])
      clear hc
      have Hk : Hid (v ≠ xs[k] → v ∉ xs.take (k + 1)) := Lib.hid (notMem_step lx He.out)
      have Hk' : Hid (xs[k] = v → idxF xs v = (k : Int)) := Lib.hid (idxF_hit lx He.out)
      generalize xs[k] = x at *
      by_cases hxy : v = x
      · have e1 := eqS hxy
        have He := Lib.hid hxy
        clear hxy
        go_wp2
        go_ret
        exact ⟨ret_int (Hk'.out He.out.symm).symm, rfl⟩
      · have e1 := neS hxy
        have He := Lib.hid hxy
        clear hxy
        go_wp2
        go_round
        case rel => exact ⟨k + 1, by omega, by go_num, Hk.out He.out⟩
        case measure => simp [intOf]; omega
    · go_wp2
      go_ret
      refine ⟨ret_int ?_, rfl⟩
      have h := He.out
      rw [List.take_of_length_le (by rw [Hn.out]; omega)] at h
      exact (idxF_miss h).symm
end Go.Proofs.Ytgijjmcjobjoeaa
