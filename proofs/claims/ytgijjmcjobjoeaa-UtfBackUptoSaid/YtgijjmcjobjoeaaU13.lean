import Derived.Test.YtgijjmcjobjoeaaU9
namespace Go.Proofs.Ytgijjmcjobjoeaa
open Go.RowKit

theorem info21 : (Try.prog.info? 21).map (fun i => (i.zero, i.size, i.bytes)) = some (some (.int .i32 0), 1, 4) := by kernel_rfl
theorem info2 : (Try.prog.info? 2).map (fun i => (i.zero, i.size, i.bytes)) = some (some (.int .i64 0), 1, 8) := by kernel_rfl
theorem info5 : (Try.prog.info? 5).map (fun i => (i.zero, i.size, i.bytes)) = some (some (.int .u8 0), 1, 1) := by kernel_rfl
theorem one_i1 (k : IntKind) (x : Int) : ∀ u ∈ [Value.int k x], u.oneCell' = true := by
  intro u hu; rw [List.mem_singleton.1 hu]; rfl

/-- what is returned is a slice of numbers of the call's own, behind block B0, and a number -/
def OwnI (B0 : Nat) (w : World) (k : IntKind) (E : TypeId) (n : Nat) (xs : List Int) (m : Int) (e : Ending) (w' : World) : Prop :=
  ∃ A c, e = .returned (.tuple #[.slice A n c, .int .i64 m]) ∧ xs.length = n ∧ w'.ownsRow B0 E 1 (.slice A n c) n (xs.map (Value.int k)) ∧ Below B0 w w'

theorem ptsF_len (s : ByteArray) (d : Nat) : ∀ a, s.size - a ≤ d → (ptsF s a).length ≤ s.size - a := by
  induction d with
  | zero =>
    intro a h
    rw [ptsF_stop s a (stepN_end s a (by omega))]; simp
  | succ d ih =>
    intro a h
    have hb := stepN_bd s a
    by_cases h0 : stepN s a = 0
    · rw [ptsF_stop s a h0]; simp
    · rw [ptsF_go s a h0, List.length_cons]
      have := ih (a + stepN s a) (by omega)
      omega

/-- one round: what is gathered, and what is still to come -/
theorem pts_round (s : ByteArray) (a : Nat) (acc : List Int) (h : ptsF s 0 = acc ++ ptsF s a) (h0 : stepN s a ≠ 0) : ptsF s 0 = (acc ++ [(decF s a).1]) ++ ptsF s (a + stepN s a) := by
  rw [h, ptsF_go s a h0, List.append_assoc]; rfl

set_option maxHeartbeats 1000000 in
theorem points_any (s : ByteArray) (hs : s.size ≤ 17592186044416) (w : World) :
    Calls Try.prog 26 #[.string s] w (OwnI w.heap.size w .i32 21 (ptsF s 0).length (ptsF s 0) (endF s 0)) := by
  go_enter Try.func26, Try.ntmps26
  go_wp2
  go_loopw [4, 5, 6, 7] (fun t4 t5 t6 t7 wr => ∃ (a n : Nat) (acc : List Int), a ≤ s.size ∧ t5 = .int .i64 a ∧ ptsF s 0 = acc ++ ptsF s a ∧ endF s a = endF s 0 ∧ acc.length = n ∧ n ≤ a ∧ wr.ownsRow w.heap.size 21 1 t4 n (acc.map (Value.int .i32)) ∧ Below w.heap.size w wr) (fun _ t5 _ _ _ => s.size - (intOf t5).toNat)
  case atStart => exact ⟨0, 0, [], Nat.zero_le _, rfl, rfl, rfl, rfl, Nat.le_refl _, World.ownsRow_nil _ _ _ _, Below.refl _ _⟩
  case round =>
    obtain ⟨a, n, acc, ha, rfl, hp0, he, hn, hna, hown, hbw⟩ := hrel
    obtain ⟨A1, c1, rfl⟩ := own_form hown
    have He := Lib.hid he
    have Hp0 := Lib.hid hp0
    have Hn := Lib.hid hn
    have Hown := Lib.hid hown
    have Hbw := Lib.hid hbw
    have zb := hbw.size
    have Hv := Lib.hid (oneV_nat s a)
    have hb := stepN_bd s a
    have Hd := Lib.hid hb.2.2
    have hb1 := hb.1
    have hb2 := hb.2.1
    have Hstop := Lib.hid (endF_stop s a)
    have Hgo := Lib.hid (endF_go s a)
    have Hpstop := Lib.hid (ptsF_stop s a)
    have Hpgo := Lib.hid (pts_round s a acc hp0)
    clear he hb hp0 hn hown hbw
    -- the ways out of the loop
    have Hfin : Hid (stepN s a = 0 → acc = ptsF s 0 ∧ a = endF s 0) := Lib.hid (fun h0 => ⟨by rw [Hp0.out, Hpstop.out h0, List.append_nil], by rw [← He.out, Hstop.out h0]⟩)
    by_cases hlt : a < s.size
    · obtain ⟨p, hp⟩ : ∃ p, (decF s a).1 = p := ⟨_, rfl⟩
      obtain ⟨m, hm⟩ : ∃ m, stepN s a = m := ⟨_, rfl⟩
      rw [hm] at hb1 hb2
      have Hp := Lib.hid hp
      have Hm := Lib.hid hm
      clear hp hm
      by_cases h0 : m = 0
      · have t1 : ((m : Int) == 0) = true := by simp [h0]
        have hfin := Hfin.out (by rw [Hm.out]; exact h0)
        have Hf := Lib.hid hfin
        clear h0 hfin
        go_wp2_with fail
        refine (one_any s a (by omega) (by omega) _).mono ?_
        rw [Hv.out, Hd.out, Hp.out, Hm.out]
        rintro e w' ⟨rfl, rfl⟩
        go_wp2
        go_ret2
        rw [← Hf.out.1, ← Hf.out.2, Hn.out]
        exact ⟨A1, c1, rfl, Hn.out, Hown.out, Hbw.out⟩
      · have t1 : ((m : Int) == 0) = false := by simp [h0]
        have hm1 : 1 ≤ m := by omega
        have hm2 : a + m ≤ s.size := by omega
        have hr1 := Hpgo.out (by rw [Hm.out]; exact h0)
        rw [Hp.out, Hm.out] at hr1
        have hr2 := Hgo.out (by rw [Hm.out]; exact h0)
        rw [Hm.out, He.out] at hr2
        have Hr1 := Lib.hid hr1
        have Hr2 := Lib.hid hr2
        clear hr1 hr2
        go_wp2_with fail
        refine (one_any s a (by omega) (by omega) _).mono ?_
        rw [Hv.out, Hd.out, Hp.out, Hm.out]
        rintro e w' ⟨rfl, rfl⟩
        go_wp2_with (at_builtin; refine wpList_app _ rfl _ _ 47 21 rfl w.heap.size _ 4 Try.underlying47 info21 rfl _ n _ rfl (Hown.out.alloc _) (wr.heap.size + 1) _ 1 _ [.int .i32 p] rfl (rd_new1 _ _ _) rfl (one_i1 _ _) ?c3 ?c4 ?c5 ?_)
        case c3 => omega
        case c4 => first | omega | (simp only [maxLen]; omega)
        case c5 => first | omega | (simp; omega)
        intro v' w1 hown1 hgrow
        have hb3 := Below.own (Hbw.out.alloc zb _) (Hown.out.alloc _) hgrow (by simp; omega) (Nat.le_refl _)
        have hown2 : w1.ownsRow w.heap.size 21 1 v' (n + 1) ((acc ++ [p]).map (Value.int .i32)) := by rw [List.map_append]; exact hown1
        clear hown1 hgrow
        go_wp2
        go_roundw
        case rel => exact ⟨a + m, n + 1, acc ++ [p], hm2, by go_num, Hr1.out, Hr2.out.symm, by rw [List.length_append, Hn.out]; rfl, by omega, hown2, hb3⟩
        case measure => simp [intOf]; omega
    · have hfin := Hfin.out (stepN_end s a (by omega))
      have Hf := Lib.hid hfin
      clear hfin
      go_wp2
      go_ret2
      rw [← Hf.out.1, ← Hf.out.2, Hn.out]
      exact ⟨A1, c1, rfl, Hn.out, Hown.out, Hbw.out⟩

set_option maxHeartbeats 1000000 in
theorem rpoints_any (s : ByteArray) (hs : s.size ≤ 17592186044416) (w : World) :
    Calls Try.prog 27 #[.string s] w (OwnI w.heap.size w .i64 2 (ptsF s 0).length (ptsF s 0) (endF s 0)) := by
  go_enter Try.func27, Try.ntmps27
  go_wp2
  go_loopw [2, 3, 4, 5, 6, 7] (fun t2 t3 t4 t5 t6 t7 wr => ∃ (a n : Nat) (acc : List Int), a ≤ s.size ∧ t5 = .int .i64 a ∧ ptsF s 0 = acc ++ ptsF s a ∧ endF s a = endF s 0 ∧ acc.length = n ∧ n ≤ a ∧ wr.ownsRow w.heap.size 2 1 t4 n (acc.map (Value.int .i64)) ∧ Below w.heap.size w wr) (fun _ _ _ t5 _ _ _ => s.size - (intOf t5).toNat)
  case atStart => exact ⟨0, 0, [], Nat.zero_le _, rfl, rfl, rfl, rfl, Nat.le_refl _, World.ownsRow_nil _ _ _ _, Below.refl _ _⟩
  case round =>
    obtain ⟨a, n, acc, ha, rfl, hp0, he, hn, hna, hown, hbw⟩ := hrel
    obtain ⟨A1, c1, rfl⟩ := own_form hown
    have He := Lib.hid he
    have Hp0 := Lib.hid hp0
    have Hn := Lib.hid hn
    have Hown := Lib.hid hown
    have Hbw := Lib.hid hbw
    have zb := hbw.size
    have Hv := Lib.hid (oneV_nat s a)
    have hb := stepN_bd s a
    have Hd := Lib.hid hb.2.2
    have hb1 := hb.1
    have hb2 := hb.2.1
    have Hstop := Lib.hid (endF_stop s a)
    have Hgo := Lib.hid (endF_go s a)
    have Hpstop := Lib.hid (ptsF_stop s a)
    have Hpgo := Lib.hid (pts_round s a acc hp0)
    clear he hb hp0 hn hown hbw
    have Hfin : Hid (stepN s a = 0 → acc = ptsF s 0 ∧ a = endF s 0) := Lib.hid (fun h0 => ⟨by rw [Hp0.out, Hpstop.out h0, List.append_nil], by rw [← He.out, Hstop.out h0]⟩)
    by_cases hlt : a < s.size
    · obtain ⟨p, hp⟩ : ∃ p, (decF s a).1 = p := ⟨_, rfl⟩
      obtain ⟨m, hm⟩ : ∃ m, stepN s a = m := ⟨_, rfl⟩
      rw [hm] at hb1 hb2
      have Hp := Lib.hid hp
      have Hm := Lib.hid hm
      clear hp hm
      by_cases h0 : m = 0
      · have t1 : ((m : Int) == 0) = true := by simp [h0]
        have hfin := Hfin.out (by rw [Hm.out]; exact h0)
        have Hf := Lib.hid hfin
        clear h0 hfin
        go_wp2_with fail
        refine (rone_any s a (by omega) (by omega) _).mono ?_
        rw [Hv.out, Hd.out, Hp.out, Hm.out]
        rintro e w2 ⟨rfl, hb4⟩
        have Hb4 := Lib.hid hb4
        clear hb4
        go_wp2
        go_ret2
        rw [← Hf.out.1, ← Hf.out.2, Hn.out]
        exact ⟨A1, c1, rfl, Hn.out, own_below Hown.out Hb4.out (Nat.le_refl _), Hbw.out.trans (Hb4.out.mono zb)⟩
      · have t1 : ((m : Int) == 0) = false := by simp [h0]
        have hm1 : 1 ≤ m := by omega
        have hm2 : a + m ≤ s.size := by omega
        have hr1 := Hpgo.out (by rw [Hm.out]; exact h0)
        rw [Hp.out, Hm.out] at hr1
        have hr2 := Hgo.out (by rw [Hm.out]; exact h0)
        rw [Hm.out, He.out] at hr2
        have Hr1 := Lib.hid hr1
        have Hr2 := Lib.hid hr2
        clear hr1 hr2
        go_wp2_with fail
        refine (rone_any s a (by omega) (by omega) _).mono ?_
        rw [Hv.out, Hd.out, Hp.out, Hm.out]
        rintro e w2 ⟨rfl, hb4⟩
        have hown3 := own_below Hown.out hb4 (Nat.le_refl _)
        have Hbw2 := Lib.hid (Hbw.out.trans (hb4.mono zb))
        have zb2 : w.heap.size ≤ w2.heap.size := Nat.le_trans zb hb4.size
        have Hown3 := Lib.hid hown3
        clear hb4 hown3
        go_wp2_with (at_builtin; refine wpList_app _ rfl _ _ 53 2 rfl w.heap.size _ 8 Try.underlying53 info2 rfl _ n _ rfl (Hown3.out.alloc _) (w2.heap.size + 1) _ 1 _ [.int .i64 p] rfl (rd_new1 _ _ _) rfl (one_i1 _ _) ?c3 ?c4 ?c5 ?_)
        case c3 => omega
        case c4 => first | omega | (simp only [maxLen]; omega)
        case c5 => first | omega | (simp; omega)
        intro v' w1 hown1 hgrow
        have hb3 := Below.own (Hbw2.out.alloc zb2 _) (Hown3.out.alloc _) hgrow (by simp; omega) (Nat.le_refl _)
        have hown2 : w1.ownsRow w.heap.size 2 1 v' (n + 1) ((acc ++ [p]).map (Value.int .i64)) := by rw [List.map_append]; exact hown1
        clear hown1 hgrow
        go_wp2
        go_roundw
        case rel => exact ⟨a + m, n + 1, acc ++ [p], hm2, by go_num, Hr1.out, Hr2.out.symm, by rw [List.length_append, Hn.out]; rfl, by omega, hown2, hb3⟩
        case measure => simp [intOf]; omega
    · have hfin := Hfin.out (stepN_end s a (by omega))
      have Hf := Lib.hid hfin
      clear hfin
      go_wp2
      go_ret2
      rw [← Hf.out.1, ← Hf.out.2, Hn.out]
      exact ⟨A1, c1, rfl, Hn.out, Hown.out, Hbw.out⟩
end Go.Proofs.Ytgijjmcjobjoeaa
