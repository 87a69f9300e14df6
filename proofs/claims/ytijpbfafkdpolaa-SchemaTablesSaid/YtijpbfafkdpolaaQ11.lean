import Derived.Test.YtijpbfafkdpolaaQ10
namespace Go.Proofs.Ytijpbfafkdpolaa
open Go.RowKit Go.Shelf

theorem infoR : (Try.prog.info? 32).map (fun i => (i.zero, i.size, i.bytes)) = some (some (.agg #[.string ⟨#[]⟩, .int .i64 0, .string ⟨#[]⟩, .bool false, .string ⟨#[]⟩]), 5, 64) := by kernel_rfl
def RPost (base : Nat) (w : World) (n : Nat) (t : List Prp) (e : Ending) (w' : World) : Prop := ∃ A c, e = .returned (.slice A n c) ∧ w'.ownsRow base 32 5 (.slice A n c) n (cellsP t) ∧ Below base w w'
theorem encP_one (p : Prp) : ∀ u ∈ encP p, u.oneCell' = true := by
  intro u hu
  simp only [encP, List.mem_cons, List.not_mem_nil, or_false] at hu
  rcases hu with rfl | rfl | rfl | rfl | rfl <;> rfl
theorem cells_one (p : Prp) (w : World) (e : TypeId) : ∀ (j : Nat) u, (encP p)[j]? = some u → (w.alloc (.cells (encP p).toArray e)).cell? ((⟨w.heap.size, 0, none⟩ : Addr).add j) = some u := by
  intro j u hu
  rw [Addr.add_lit, Nat.zero_add]
  simp only [World.cell?_alloc_new]
  simpa using hu
theorem map_step (l : List ByteArray) (k : Nat) (h : k < l.length) : cellsP ((l.take (k + 1)).map propF) = cellsP ((l.take k).map propF) ++ encP (propF (l.getD k ⟨#[]⟩)) := by
  rw [List.take_succ_eq_append_getElem h, List.map_append]
  unfold cellsP
  rw [List.flatMap_append]
  simp [List.getD, List.getElem?_eq_getElem h]

set_option maxRecDepth 100000 in
set_option maxHeartbeats 4000000 in
theorem rprops_at (of t : ByteArray) (l : List ByteArray) (N : Nat) (HT : ∀ w, Calls Try.prog 22 #[.string of] w fun e w' => e = .returned (.string t) ∧ w = w') (hne : t.toList.isEmpty = false) (hz : t.size ≤ 3200000) (hl : splitF t 59 = l) (hN : l.length = N) (h99 : N ≤ 99) (hf : ∀ u ∈ l, fineP u = true) (W : World) :
    Calls Try.prog 10 #[.string of] W (RPost W.heap.size W N (l.map propF)) := by
  have HT2 := Lib.hid HT
  have HS := Lib.hid (rsplit_at t 59 59 rfl hz l N hl hN)
  have Hf := Lib.hid hf
  have HN := Lib.hid hN
  obtain ⟨i0, hi0, hi1, hi2, hi3⟩ := info_parts infoR
  clear HT hl hf hN
  go_enter Try.func10, Try.ntmps10
  go_wp2_with fail
  refine (HT2.out _).mono ?_
  rintro e w0 ⟨rfl, rfl⟩
  go_wp2_with fail
  refine (HS.out _).mono ?_
  rintro e w1 ⟨A1, c1, rfl, ho, hb⟩
  have Ho := Lib.hid ho
  have Hb := Lib.hid hb
  have hzz := hb.size
  have HRd := Lib.hid (Rd.of_own ho)
  clear ho hb
  go_wp2_with fail
  go_loopw [4, 6] (fun t4 t6 wr => ∃ k : Nat, k ≤ N ∧ t6 = .int .i64 k ∧ Hid (wr.ownsRow w1.heap.size 32 5 t4 k (cellsP ((l.take k).map propF))) ∧ Below w1.heap.size w1 wr) (fun _ t6 _ => N - (intOf t6).toNat)
  case atStart => exact ⟨0, Nat.zero_le _, rfl, Lib.hid (World.ownsRow_nil _ _ _ _), Below.refl _ _⟩
  case round =>
    obtain ⟨k, hk, rfl, Hown, hbw⟩ := hrel
    obtain ⟨A2, c2, rfl⟩ := own_form Hown.out
    have Hbw := Lib.hid hbw
    have zb := hbw.size
    clear hbw
    by_cases hlt : k < N
    · obtain ⟨g, off, rfl, hg, hc⟩ := HRd.out.at_ (by rw [List.length_map, HN.out]; omega)
      obtain ⟨u, hu⟩ : ∃ u, l.getD k ⟨#[]⟩ = u := ⟨_, rfl⟩
      have hku : l[k]? = some u := by rw [← hu, List.getD, List.getElem?_eq_getElem (by rw [HN.out]; exact hlt)]; rfl
      have lu : wr.cell? ⟨g, off + k, none⟩ = some (.string u) := (Hbw.out.cell (p := ⟨g, off + k, none⟩) (by exact hg)).trans (hc k (.string u) (by rw [List.getElem?_map, hku]; rfl))
      have HPr := Lib.hid (prop_any u (Hf.out u (List.mem_of_getElem? hku)))
      have Hst := Lib.hid (map_step l k (by rw [HN.out]; exact hlt))
      rw [hu] at Hst
      clear hu hku hc
      go_wp2_with fail
      refine (HPr.out _).mono ?_
      unfold PropEnd
      generalize propF u = p at *
      obtain ⟨pa, pb, pc, pq, pd⟩ := p
      rintro e w2 ⟨he, hb2⟩
      obtain rfl : e = .returned (.agg #[.string pa, .int .i64 pb, .string pc, .bool pq, .string pd]) := he
      have z2 := hb2.size
      have Hb3 := Lib.hid (Hbw.out.trans (hb2.mono zb))
      have Hown2 := Lib.hid (own_below Hown.out hb2 (Nat.le_refl _))
      clear hb2
      have Hz3 : Hid (w1.heap.size ≤ (w2.alloc (.cells #[.string pa, .int .i64 pb, .string pc, .bool pq, .string pd] 32)).heap.size) := Lib.hid (by simp; omega)
      have Hb4 := Lib.hid (Hb3.out.alloc (Nat.le_trans zb z2) (.cells #[.string pa, .int .i64 pb, .string pc, .bool pq, .string pd] 32))
      have Hc1 := Lib.hid (cells_one (pa, pb, pc, pq, pd) w2 32)
      go_wp2_with (at_builtin; refine wpList_append_own _ rfl _ _ 27 rfl w1.heap.size 32 i0 _ 5 64 Try.underlying27 hi0 hi1 hi2 hi3 rfl (by decide) _ k _ rfl (Hown2.out.alloc _) ⟨w2.heap.size, 0, none⟩ 1 1 (encP (pa, pb, pc, pq, pd)) rfl rfl ?c1 ?c2 ?c3 ?c4 Hz3.out ?_)
      case c1 => exact Hc1.out
      case c2 => exact encP_one _
      case c3 => first | omega | (simp only [maxLen]; omega)
      case c4 => omega
      intro v' wx hown2 hgrow _
      have hbx := Below.own Hb4.out (Hown2.out.alloc _) hgrow Hz3.out (Nat.le_refl _)
      have hown3 : wx.ownsRow w1.heap.size 32 5 v' (k + 1) (cellsP ((l.take (k + 1)).map propF)) := by
        rw [Hst.out]; first | exact hown2 | (rw [List.map_take]; exact hown2)
      have Hown3 := Lib.hid hown3
      have Hbx := Lib.hid hbx
      clear hown2 hgrow hown3 hbx
      go_wp2_with fail
      go_roundw
      case rel => exact ⟨k + 1, by omega, by go_num, Hown3, Hbx.out⟩
      case measure => simp [intOf]; omega
    · obtain rfl : k = N := by omega
      have He : Hid (wr.ownsRow w1.heap.size 32 5 (.slice A2 k c2) k (cellsP (l.map propF))) := Lib.hid (by
        have := Hown.out
        rwa [List.take_of_length_le (by rw [HN.out]; exact Nat.le_refl _)] at this)
      go_wp2_with fail
      go_ret
      exact ⟨_, _, rfl, own_base He.out hzz, Hb.out.trans (Hbw.out.mono hzz)⟩
end Go.Proofs.Ytijpbfafkdpolaa
