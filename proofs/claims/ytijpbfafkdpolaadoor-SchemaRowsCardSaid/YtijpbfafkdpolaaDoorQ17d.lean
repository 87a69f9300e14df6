import Derived.Test.YtijpbfafkdpolaaDoorQ13d
import Derived.Test.YtijpbfafkdpolaaDoorPS
namespace Go.Proofs.YtijpbfafkdpolaaDoor
open Go.RowKit Go.Shelf

theorem eqS' {a b : ByteArray} (h : a = b) : (a.toList == b.toList) = true := by simp [h]
theorem neS' {a b : ByteArray} (h : a ≠ b) : (a.toList == b.toList) = false := by
  rw [beq_eq_false_iff_ne]; intro h2; rw [ByteArray.toList_eq, ByteArray.toList_eq] at h2; exact h (bytes_extM h2)
theorem ne_isEmpty {a : ByteArray} (h : 0 < a.size) : (!a.toList.isEmpty) = true := by
  rw [ByteArray.toList_eq]
  cases hh : a.data.toList with
  | nil =>
    have e2 : a.data.toList.length = a.size := by simp
    rw [hh] at e2; simp at e2; omega
  | cons x r => rfl
theorem toList_nil {a : ByteArray} (h : a.size = 0) : a.toList = [] := by
  rw [ByteArray.toList_eq]; exact List.eq_nil_of_length_eq_zero (by simpa using h)
def MaxAt (w : World) : Prop := ∃ m, w.cell? ⟨0, 0, none⟩ = some (.int .i64 m)
theorem MaxAt.below {B : Nat} {w w' : World} (h : MaxAt w) (hb : Below B w w') (h0 : 0 < B) : MaxAt w' := by
  obtain ⟨m, hm⟩ := h
  exact ⟨m, by rw [hb.cell h0]; exact hm⟩
theorem MaxAt.size {w : World} (h : MaxAt w) : 0 < w.heap.size := by
  obtain ⟨m, hm⟩ := h
  apply Nat.pos_of_ne_zero
  intro h0
  have : w.heap = #[] := Array.eq_empty_of_size_eq_zero h0
  unfold World.cell? at hm
  simp [this] at hm

theorem split_any (s : ByteArray) (c : UInt8) (hs : s.size < 4294967281) (w : World) (hm : MaxAt w) :
    Calls Tryd.prog 45 #[.string s, .string ⟨#[c]⟩] w fun e w' => ∃ A, e = .returned (.slice A (splitF s c).length (splitF s c).length) ∧ Rd w' w'.heap.size A ((splitF s c).map Value.string) ∧ Below w.heap.size w w' := by
  obtain ⟨m, hm⟩ := hm
  refine (Tryd.strings_Split s ⟨#[c]⟩ m w hs hm (Nat.le_refl 1)).mono ?_
  rintro e w' ⟨rfl, rfl⟩
  refine ⟨some ⟨w.heap.size, 0, none⟩, by rw [splitF_len], ?_, (Below.refl _ _).alloc (Nat.le_refl _) _⟩
  rw [split_eq, World.size_alloc]
  exact rd_lit w _ 9

def inF (list s : ByteArray) : Bool := decide (s.size ≠ 0) && (splitF list 32).any (fun x => decide (x = s))
theorem inF_some (list s : ByteArray) (h : 0 < s.size) : inF list s = (splitF list 32).any (fun x => decide (x = s)) := by unfold inF; rw [decide_eq_true (by omega)]; rfl
theorem any_step (xs : List ByteArray) (f : ByteArray → Bool) (k : Nat) (h : k < xs.length) : (xs.take (k + 1)).any f = ((xs.take k).any f || f xs[k]) := by
  rw [take_succ_eq xs k h, List.any_append]; simp
theorem any_hit (xs : List ByteArray) (f : ByteArray → Bool) (k : Nat) (h : k < xs.length) (hf : f xs[k] = true) : xs.any f = true := List.any_eq_true.2 ⟨xs[k], List.getElem_mem h, hf⟩

set_option maxHeartbeats 1000000 in
theorem in_any (list s : ByteArray) (hl : list.size < 4294967281) (hs : 0 < s.size) (w : World) (hm : MaxAt w) : Calls Tryd.prog 23 #[.string list, .string s] w fun e w' => e = .returned (.bool (inF list s)) ∧ Below w.heap.size w w' := by
    have Hr := Lib.hid (inF_some list s (by omega))
    have hE := ne_isEmpty (a := s) (by omega)
    have hE2 : s.toList.isEmpty = false := by simpa using hE
    have HS := Lib.hid (split_any list 32 hl w hm)
    have hln := splitF_len list 32
    have hcl := Lib.countB_le ⟨#[32]⟩ (Nat.le_refl 1) _ list (Nat.le_refl _)
    clear hm
    go_enter Tryd.func23, Tryd.ntmps23
    go_wp2_with fail
    refine HS.out.mono ?_
    rintro e w1 ⟨A, rfl, hrd, hb⟩
    have Hrd := Lib.hid hrd
    have Hb := Lib.hid hb
    clear hrd hb HS
    generalize splitF list 32 = xs at *
    obtain ⟨n, hn⟩ : ∃ n, xs.length = n := ⟨_, rfl⟩
    have hn2 : n ≤ 4294967281 := by omega
    rw [hn]
    have Hn := Lib.hid hn
    clear hn hln hcl
    go_wp2_with fail
    go_loopw [12] (fun i wr => ∃ k : Nat, k ≤ n ∧ i = .int .i64 k ∧ Hid ((xs.take k).any (fun x => decide (x = s)) = false) ∧ w1 = wr) (fun i _ => n - (intOf i).toNat)
    case atStart => exact ⟨0, Nat.zero_le _, rfl, Lib.hid rfl, rfl⟩
    case round =>
      obtain ⟨k, hk, rfl, Ha, rfl⟩ := hrel
      by_cases hlt : k < n
      · have lx : k < xs.length := by rw [Hn.out]; exact hlt
        obtain ⟨b1, o1, rfl, _, hc⟩ := Hrd.out.at_ (by rw [List.length_map]; omega)
        have h1 := hc k (.string xs[k]) (by simp [lx])
        clear hc
        have Hst := Lib.hid (any_step xs (fun x => decide (x = s)) k lx)
        have Hhit := Lib.hid (any_hit xs (fun x => decide (x = s)) k lx)
        generalize xs[k] = x at *
        by_cases hx : x = s
        · have e1 := eqS' hx
          have Hres := Lib.hid (Hhit.out (decide_eq_true hx))
          clear hx
          go_wp2
          go_ret
          exact ⟨ret_boolM'' (by rw [Hr.out, Hres.out]), Hb.out⟩
        · have e1 := neS' hx
          have Ha2 : Hid ((xs.take (k + 1)).any (fun x => decide (x = s)) = false) := Lib.hid (by rw [Hst.out, Ha.out, decide_eq_false hx]; rfl)
          clear hx
          go_wp2
          go_roundw
          case rel => exact ⟨k + 1, by omega, by go_num, Ha2, trivial⟩
          case measure => simp [intOf]; omega
      · have Hres : Hid (xs.any (fun x => decide (x = s)) = false) := Lib.hid (by
          have := Ha.out
          rwa [show k = xs.length by rw [Hn.out]; omega, List.take_length] at this)
        go_wp2
        go_ret
        exact ⟨ret_boolM'' (by rw [Hr.out, Hres.out]), Hb.out⟩
theorem in_at (list s : ByteArray) (hl : list.size < 4294967281) (hs : 0 < s.size) (h : inF list s = true) (w : World) (hm : MaxAt w) : Calls Tryd.prog 23 #[.string list, .string s] w fun e w' => e = .returned (.bool true) ∧ Below w.heap.size w w' := by
  have := in_any list s hl hs w hm
  rw [h] at this
  exact this
end Go.Proofs.YtijpbfafkdpolaaDoor
