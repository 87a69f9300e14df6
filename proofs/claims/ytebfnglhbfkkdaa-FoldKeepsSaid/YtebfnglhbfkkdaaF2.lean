import Derived.Test.YtebfnglhbfkkdaaF1
namespace Go.Proofs.Ytebfnglhbfkkdaa
open Go.RowKit

theorem info5 : (Try.prog.info? 5).map (fun i => (i.zero, i.size, i.bytes)) = some (some (.int .u8 0), 1, 1) := by kernel_rfl
theorem one_i1 (k : IntKind) (x : Int) : ∀ u ∈ [Value.int k x], u.oneCell' = true := by
  intro u hu; rw [List.mem_singleton.1 hu]; rfl
theorem ret_str {a b : ByteArray} (h : a = b) : Ending.returned (.string a) = .returned (.string b) := by rw [h]

theorem row8_bytes (w : World) (s : ByteArray) : Row8 (Lib.bytesWorld w 5 s) w.heap.size (nums s) := by
  intro j x hx
  have hj : j < s.size := by
    have := (List.getElem?_eq_some_iff.1 hx).1
    rwa [nums_len] at this
  have hjl : j < s.data.toList.length := by simpa using hj
  refine ⟨?_, ?_⟩
  · rw [Lib.bytesWorld_cell w 5 s j hj]
    unfold nums at hx
    rw [List.getElem?_map, List.getElem?_eq_getElem hjl] at hx
    simp only [Option.map_some, Option.some.injEq] at hx
    rw [List.getD, List.getElem?_eq_getElem hjl]
    simp only [Option.getD_some, ← hx]
  · have hs : s.size ≤ (Lib.bytesCells w 5 s).size := by simp [Lib.bytesCells]
    simp only [World.frozen?, Lib.bytesWorld_at_new]
    simp
    omega
theorem below_bytes (w : World) (s : ByteArray) : Below w.heap.size w (Lib.bytesWorld w 5 s) :=
  ⟨rfl, rfl, rfl, by rw [Lib.bytesWorld_size]; omega, fun k hk => Lib.bytesWorld_at_old w 5 s k hk⟩

set_option maxHeartbeats 1000000 in
theorem fold_any (s : ByteArray) (hs : s.size ≤ 281474976710656) (w : World) :
    Calls Try.prog 10 #[.string s] w fun e w' => e = .returned (.string (foldS s)) ∧ Below w.heap.size w w' := by
  have hcv0 := fun (w : World) => Lib.run_convert_string_bytes (P := Try.prog) w 9 31 5 s Try.underlying9 Try.underlying31 Try.underlying5
  have hrow := row8_bytes w s
  have hbel := below_bytes w s
  have hnl := nums_len s
  have Hb := Lib.hid (nums_bd s)
  obtain ⟨xs, hxs⟩ : ∃ xs, nums s = xs := ⟨_, rfl⟩
  rw [hxs] at hrow hnl
  have Hxs := Lib.hid hxs
  have Hrow := Lib.hid hrow
  have Hbel := Lib.hid hbel
  have Hnl := Lib.hid hnl
  obtain ⟨n, hn⟩ : ∃ n, s.size = n := ⟨_, rfl⟩
  have Hn := Lib.hid hn
  rw [hn] at hs
  clear hxs hrow hbel hnl
  go_enter Try.func10, Try.ntmps10
  go_wp2_with fail
  obtain ⟨W, hW⟩ : ∃ W, W = Lib.bytesWorld w 5 s := ⟨_, rfl⟩
  rw [← hW]
  have HW := Lib.hid hW
  clear hW hcv0
  go_loopw [4, 5, 10] (fun t4 t5 t10 wr => ∃ k : Nat, k ≤ n ∧ t10 = .int .i64 k ∧ Row8 wr w.heap.size (foldK xs k) ∧ Below w.heap.size w wr) (fun _ _ t10 _ => n - (intOf t10).toNat)
  case atStart => exact ⟨0, Nat.zero_le _, rfl, by rw [foldK_zero, HW.out]; exact Hrow.out, by rw [HW.out]; exact Hbel.out⟩
  case round =>
    obtain ⟨k, hk, rfl, hr, hb⟩ := hrel
    have Hr := Lib.hid hr
    have Hbb := Lib.hid hb
    clear hr hb
    by_cases hlt : k < n
    · have lx : k < xs.length := by rw [Hnl.out, Hn.out]; exact hlt
      have hc := Hr.out k xs[k] (foldK_at xs k lx)
      have hset := Hr.out.set k (by rw [foldK_len]; exact lx) (smF xs[k])
      rw [foldK_step xs k lx] at hset
      have hxb := Hb.out xs[k] (by rw [Hxs.out]; exact List.getElem_mem lx)
      have Hset := Lib.hid hset
      obtain ⟨hc1, hc2⟩ := hc
      clear hset
      generalize xs[k] = x at *
      go_wp2_with fail
      refine (small_any x hxb _).mono ?_
      rintro e w' ⟨rfl, rfl⟩
      go_wp2_with fail
      go_roundw
      case rel => exact ⟨k + 1, by omega, by go_num, Hset.out, Hbb.out.setCell (Nat.le_refl _) _⟩
      case measure => simp [intOf]; omega
    · have hkn : k = n := by omega
      have hcv : (convert 31 9 (.slice (some ⟨w.heap.size, 0, none⟩) n (grownCap w n 0 5))).run Try.prog wr = .ok (.string (strOfNums (xs.map smF))) wr := by
        have hl : xs.length = n := by rw [Hnl.out, Hn.out]
        refine run_convert_bytes_arg wr 31 5 Try.underlying31 Try.underlying5 w.heap.size 0 n _ (xs.map smF) (by rw [List.length_map]; exact hl) ?_ 9 Try.underlying9
        intro i hi
        have h := Hr.out
        rw [hkn, ← hl, foldK_end] at h
        have h2 := (h i ((xs.map smF)[i]'(by rw [List.length_map]; omega)) (List.getElem?_eq_getElem _)).1
        rw [Nat.zero_add, h2, List.getD, List.getElem?_eq_getElem (by rw [List.length_map]; omega)]
        rfl
      have Hk := Lib.hid hkn
      clear hkn
      go_wp2_with fail
      go_ret
      exact ⟨ret_str (by unfold foldS; rw [Hxs.out]), Hbb.out⟩

theorem nums_at (s : ByteArray) (k : Nat) (h : k < s.size) (x : Int) (hx : (nums s)[k]? = some x) : ((s[k]'h).toNat : Int) = x := by
  have hk : k < (nums s).length := by rw [nums_len]; exact h
  rw [List.getElem?_eq_getElem hk] at hx
  injection hx with hx
  rw [← hx]
  simp only [nums, List.getElem_map]
  rfl
def lowN (xs : List Int) (k : Nat) : List Int := (xs.take k).map smF
def lowV (xs : List Int) (k : Nat) : List Value := (lowN xs k).map (Value.int .u8)
theorem lowV_step (xs : List Int) (k : Nat) (h : k < xs.length) : lowV xs (k + 1) = lowV xs k ++ [.int .u8 (smF xs[k])] := by
  unfold lowV lowN
  rw [take_succ_eq xs k h, List.map_append, List.map_append]; rfl
theorem conv_own {w : World} {B0 n : Nat} {A : Option Addr} {c : Nat} {xs : List Int} (h : w.ownsRow B0 5 1 (.slice A n c) n (xs.map (Value.int .u8))) :
    (convert 31 9 (.slice A n c)).run Try.prog w = .ok (.string (strOfNums xs)) w := by
  have hl := h.1
  rw [List.length_map] at hl
  rcases h.2 with ⟨hv, h0⟩ | ⟨g, cap, cur, hv, _⟩
  · injection hv with hA hn hc
    subst hA
    have hx : xs = [] := List.eq_nil_of_length_eq_zero (by omega)
    subst hx
    exact run_convert_bytes_nil w 31 5 Try.underlying31 Try.underlying5 n c 9 Try.underlying9
  · injection hv with hA hn hc
    subst hA
    refine run_convert_bytes_arg w 31 5 Try.underlying31 Try.underlying5 g 0 n c xs (by omega) ?_ 9 Try.underlying9
    intro i hi
    have := h.cells (g := g) rfl i (.int .u8 xs[i]) (by simp [show i < xs.length by omega])
    rw [Addr.add_lit] at this
    rw [this, List.getD, List.getElem?_eq_getElem (by omega)]
    rfl

set_option maxHeartbeats 1000000 in
theorem rfold_any (s : ByteArray) (hs : s.size ≤ 140737488355328) (w : World) :
    Calls Try.prog 11 #[.string s] w fun e w' => e = .returned (.string (foldS s)) ∧ Below w.heap.size w w' := by
  have hnl := nums_len s
  have Hb := Lib.hid (nums_bd s)
  have Hat := Lib.hid (nums_at s)
  have hf : foldS s = strOfNums ((nums s).map smF) := rfl
  have Hf := Lib.hid hf
  clear hf
  obtain ⟨xs, hxs⟩ : ∃ xs, nums s = xs := ⟨_, rfl⟩
  rw [hxs] at hnl Hb Hat Hf
  have Hnl := Lib.hid hnl
  clear hnl hxs
  go_enter Try.func11, Try.ntmps11
  go_wp2_with fail
  go_loopw [3, 4, 5] (fun t3 t4 t5 wr => ∃ k : Nat, k ≤ s.size ∧ t4 = .int .i64 k ∧ wr.ownsRow w.heap.size 5 1 t3 k (lowV xs k) ∧ Below w.heap.size w wr) (fun _ t4 _ _ => s.size - (intOf t4).toNat)
  case atStart => exact ⟨0, Nat.zero_le _, rfl, World.ownsRow_nil _ _ _ _, Below.refl _ _⟩
  case round =>
    obtain ⟨k, hk, rfl, hown, hb⟩ := hrel
    obtain ⟨A1, c1, rfl⟩ := own_form hown
    have zb := hb.size
    have Hbb := Lib.hid hb
    have Hown := Lib.hid hown
    clear hb hown
    by_cases hlt : k < s.size
    · have lx : k < xs.length := by rw [Hnl.out]; exact hlt
      have gk := Hat.out k hlt xs[k] (List.getElem?_eq_getElem lx)
      have hxb := Hb.out xs[k] (List.getElem_mem lx)
      have Hst := Lib.hid (lowV_step xs k lx)
      generalize xs[k] = x at *
      have Hsm : Hid (smF x = if 65 ≤ x ∧ x ≤ 90 then x + 32 else x) := Lib.hid rfl
      by_cases hc : 65 ≤ x ∧ x ≤ 90
      · obtain ⟨h65, h90⟩ := hc
        have hsm : smF x = x + 32 := by rw [Hsm.out, if_pos ⟨h65, h90⟩]
        have Hsm2 := Lib.hid hsm
        clear hsm
        go_wp2_with (at_builtin; refine wpList_app _ rfl _ _ 31 5 rfl w.heap.size _ 1 Try.underlying31 info5 rfl _ k _ rfl (Hown.out.alloc _) (wr.heap.size + 1) _ 1 _ [.int .u8 (x + 32)] rfl (rd_new1 _ _ _) rfl (one_i1 _ _) ?c3 ?c4 ?c5 ?_)
        case c3 => omega
        case c4 => first | omega | (simp only [maxLen]; omega)
        case c5 => first | omega | (simp; omega)
        intro v' w1 hown1 hgrow
        have hb3 := Below.own (Hbb.out.alloc zb _) (Hown.out.alloc _) hgrow (by simp; omega) (Nat.le_refl _)
        have hown2 : w1.ownsRow w.heap.size 5 1 v' (k + 1) (lowV xs (k + 1)) := by
          rw [Hst.out, Hsm2.out]; exact hown1
        have Hown2 := Lib.hid hown2
        clear hown1 hgrow hown2
        go_wp2
        go_roundw
        case rel => exact ⟨k + 1, by omega, by go_num, Hown2.out, hb3⟩
        case measure => simp [intOf]; omega
      · have hsm : smF x = x := by rw [Hsm.out, if_neg hc]
        have Hsm2 := Lib.hid hsm
        have hd : x < 65 ∨ 90 < x := by omega
        clear hsm hc
        rcases hd with hd | hd
        all_goals
          go_wp2_with (at_builtin; refine wpList_app _ rfl _ _ 31 5 rfl w.heap.size _ 1 Try.underlying31 info5 rfl _ k _ rfl (Hown.out.alloc _) (wr.heap.size + 1) _ 1 _ [.int .u8 x] rfl (rd_new1 _ _ _) rfl (one_i1 _ _) ?c3 ?c4 ?c5 ?_)
          case c3 => omega
          case c4 => first | omega | (simp only [maxLen]; omega)
          case c5 => first | omega | (simp; omega)
          intro v' w1 hown1 hgrow
          have hb3 := Below.own (Hbb.out.alloc zb _) (Hown.out.alloc _) hgrow (by simp; omega) (Nat.le_refl _)
          have hown2 : w1.ownsRow w.heap.size 5 1 v' (k + 1) (lowV xs (k + 1)) := by
            rw [Hst.out, Hsm2.out]; exact hown1
          have Hown2 := Lib.hid hown2
          clear hown1 hgrow hown2
          go_wp2
          go_roundw
          case rel => exact ⟨k + 1, by omega, by go_num, Hown2.out, hb3⟩
          case measure => simp [intOf]; omega
    · have hkn : k = s.size := by omega
      have hcv := conv_own (xs := lowN xs k) Hown.out
      rw [show lowN xs k = xs.map smF from by unfold lowN; rw [hkn, ← Hnl.out, List.take_length]] at hcv
      clear hkn
      go_wp2_with fail
      go_ret
      exact ⟨ret_str Hf.out.symm, Hbb.out⟩
end Go.Proofs.Ytebfnglhbfkkdaa
