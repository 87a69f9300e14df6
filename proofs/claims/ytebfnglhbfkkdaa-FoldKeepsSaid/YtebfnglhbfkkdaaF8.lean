import Derived.Test.YtebfnglhbfkkdaaF3
namespace Go.Proofs.Ytebfnglhbfkkdaa
open Go.RowKit

theorem MaxAt.below {B : Nat} {w w' : World} (h : MaxAt w) (hb : Below B w w') (h0 : 0 < B) : MaxAt w' := by
  obtain ⟨m, hm⟩ := h
  exact ⟨m, by rw [hb.cell h0]; exact hm⟩

/-- Has does at these two texts, in whatever world, what it is to do -/
def HasOk (x t : ByteArray) : Prop := ∀ w, MaxAt w → 0 < w.heap.size → Calls Try.prog 12 #[.string x, .string t] w fun e w' => e = .returned (.bool (hasF x t)) ∧ Below w.heap.size w w'
theorem has_ok (x t : ByteArray) (hx : x.size < 4294967281) (ht : t.size ≤ 140737488355328) : HasOk x t := fun w hm h0 => has_any x t hx ht w hm h0

set_option maxHeartbeats 400000 in
theorem has_one (x t : ByteArray) (c : UInt8) (hx : x.size ≤ 140737488355328) (ht : t.size ≤ 140737488355328) (hc : foldS t = ⟨#[c]⟩) : HasOk x t := by
  intro w _ _
  have Hc := Lib.hid hc
  have Hr : Hid (hasF x t = decide (0 ≤ Lib.indexByte (foldS x).data.toList c)) := Lib.hid (by unfold hasF Lib.contains; rw [hc, ← Lib.index_one])
  clear hc
  go_enter Try.func12, Try.ntmps12
  go_wp2_with fail
  refine (fold_any x (by omega) _).mono ?_
  rintro e w1 ⟨rfl, hb1⟩
  go_wp2_with fail
  refine (fold_any t (by omega) _).mono ?_
  rintro e w2 ⟨rfl, hb2⟩
  have hb3 := hb1.trans (hb2.mono hb1.size)
  rw [Hc.out]
  go_wp2_with fail
  refine (Try.strings_Contains_one _ c _).mono ?_
  rintro e w3 ⟨rfl, rfl⟩
  go_wp2_with fail
  go_ret
  exact ⟨ret_bool Hr.out.symm, hb3⟩

set_option maxHeartbeats 400000 in
theorem match1_any (s t : ByteArray) (b : Nat) (H : HasOk s t) (w : World) (hc : w.cell? ⟨b, 0, none⟩ = some (.string t)) (hm : MaxAt w) (h0 : 0 < w.heap.size) :
    Calls Try.prog 27 #[.string s, .pointer (some ⟨b, 0, none⟩)] w fun e w' => e = .returned (.bool (hasF s t)) ∧ Below w.heap.size w w' := by
  have HH := Lib.hid (H w hm h0)
  clear hm H
  go_enter Try.func27, Try.ntmps27
  go_wp2_with fail
  refine HH.out.mono ?_
  rintro e w1 ⟨rfl, hb⟩
  go_wp2_with fail
  go_ret
  exact ⟨rfl, hb⟩

theorem any_step (xs : List ByteArray) (f : ByteArray → Bool) (k : Nat) (h : k < xs.length) : (xs.take (k + 1)).any f = ((xs.take k).any f || f xs[k]) := by
  rw [take_succ_eq xs k h, List.any_append]; simp
theorem any_hit (xs : List ByteArray) (f : ByteArray → Bool) (k : Nat) (h : k < xs.length) (hf : f xs[k] = true) : xs.any f = true := List.any_eq_true.2 ⟨xs[k], List.getElem_mem h, hf⟩

set_option maxHeartbeats 1000000 in
theorem idx_any (A : Option Addr) (n c B b : Nat) (xs : List ByteArray) (t : ByteArray) (hxs : ∀ x ∈ xs, HasOk x t) (w : World) (hx : Rd w B A (xs.map Value.string)) (hB : B ≤ w.heap.size) (hn : xs.length = n) (bn : n ≤ 9223372036854775807)
    (hb : b < w.heap.size) (hc : w.cell? ⟨b, 0, none⟩ = some (.string t)) (hm : MaxAt w) (h0 : 0 < w.heap.size) :
    Calls Try.prog 34 #[.slice A n c, .func (.func 27) #[] #[.pointer (some ⟨b, 0, none⟩)]] w fun e w' => ∃ r : Int, e = .returned (.int .i64 r) ∧ decide (0 ≤ r) = xs.any (fun x => hasF x t) ∧ Below w.heap.size w w' := by
  have Hx := Lib.hid hx
  have Hn := Lib.hid hn
  have Hm := Lib.hid hm
  have Hc := Lib.hid hc
  have Hxs := Lib.hid hxs
  clear hx hn hm hc hxs
  go_enter Try.func34, Try.ntmps34
  go_wp2
  go_loopw [8] (fun i wr => ∃ k : Nat, k ≤ n ∧ i = .int .i64 k ∧ Hid ((xs.take k).any (fun x => hasF x t) = false) ∧ Hid (Below w.heap.size w wr)) (fun i _ => n - (intOf i).toNat)
  case atStart => exact ⟨0, Nat.zero_le _, rfl, Lib.hid rfl, Lib.hid (Below.refl _ _)⟩
  case round =>
    obtain ⟨k, hk, rfl, Ha, Hb⟩ := hrel
    by_cases hlt : k < n
    · have lx : k < xs.length := by rw [Hn.out]; exact hlt
      have Hr := Lib.hid ((Hx.out.mono hB).below Hb.out)
      obtain ⟨b1, off1, rfl, _, hcx⟩ := Hr.out.at_ (by simp; omega)
      have h1 := hcx k (.string xs[k]) (by simp [lx])
      clear hcx
      have Hst := Lib.hid (any_step xs (fun x => hasF x t) k lx)
      have Hhit := Lib.hid (any_hit xs (fun x => hasF x t) k lx)
      have zx := Lib.hid (Hxs.out xs[k] (List.getElem_mem lx))
      have hcw : wr.cell? ⟨b, 0, none⟩ = some (.string t) := by rw [Hb.out.cell hb]; exact Hc.out
      have Hcw := Lib.hid hcw
      clear hcw
      have zb := Hb.out.size
      generalize xs[k] = x at *
      go_wp2_with fail
      refine (match1_any x t b zx.out _ Hcw.out (Hm.out.below Hb.out h0) (by omega)).mono ?_
      rintro e w1 ⟨rfl, hb1⟩
      have Hb1 := Lib.hid (Hb.out.trans (hb1.mono zb))
      clear hb1
      cases hh : hasF x t with
      | true =>
        have Hres := Lib.hid (Hhit.out hh)
        go_wp2
        go_ret
        exact ⟨k, rfl, by rw [Hres.out]; simp, Hb1.out⟩
      | false =>
        have Ha2 : Hid ((xs.take (k + 1)).any (fun x => hasF x t) = false) := Lib.hid (by rw [Hst.out, Ha.out, hh]; rfl)
        go_wp2
        go_roundw
        case rel => exact ⟨k + 1, by omega, by go_num, Ha2, Hb1⟩
        case measure => simp [intOf]; omega
    · have Hres : Hid (xs.any (fun x => hasF x t) = false) := Lib.hid (by
        have := Ha.out
        rwa [show k = xs.length by rw [Hn.out]; omega, List.take_length] at this)
      go_wp2
      go_ret
      exact ⟨-1, rfl, by rw [Hres.out]; rfl, Hb.out⟩

set_option maxHeartbeats 400000 in
theorem contF_any (A : Option Addr) (n c B b : Nat) (xs : List ByteArray) (t : ByteArray) (hxs : ∀ x ∈ xs, HasOk x t) (w : World) (hx : Rd w B A (xs.map Value.string)) (hB : B ≤ w.heap.size) (hn : xs.length = n) (bn : n ≤ 9223372036854775807)
    (hb : b < w.heap.size) (hc : w.cell? ⟨b, 0, none⟩ = some (.string t)) (hm : MaxAt w) (h0 : 0 < w.heap.size) :
    Calls Try.prog 26 #[.slice A n c, .func (.func 27) #[] #[.pointer (some ⟨b, 0, none⟩)]] w fun e w' => e = .returned (.bool (xs.any (fun x => hasF x t))) ∧ Below w.heap.size w w' := by
  have H := Lib.hid (idx_any A n c B b xs t hxs w hx hB hn bn hb hc hm h0)
  clear hx hn hm hc hxs
  go_enter Try.func26, Try.ntmps26
  go_wp2_with fail
  refine H.out.mono ?_
  rintro e w1 ⟨r, rfl, hr, hb1⟩
  go_wp2_with fail
  go_ret
  exact ⟨rfl, hb1⟩
end Go.Proofs.Ytebfnglhbfkkdaa
