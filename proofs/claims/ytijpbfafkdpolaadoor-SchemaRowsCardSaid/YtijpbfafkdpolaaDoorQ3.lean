import Derived.Test.YtijpbfafkdpolaaDoorQ2
namespace Go.Proofs.YtijpbfafkdpolaaDoor
open Go.RowKit Go.Shelf
open Go.Sort (HoldsK flatK putRowK size_flatK PermIn SortedIn)

theorem holds_own {w : World} {base g n c : Nat} {d : Array Prp} (hn : d.size = n) (h : w.ownsRow base 41 5 (.slice (some ⟨g, 0, none⟩) n c) n (cellsP d.toList)) : HoldsK encP 5 w g 0 d := by
  intro j hj
  have hj2 : j < n * 5 := by rw [size_flatK] at hj; omega
  refine ⟨?_, h.frozenAt _⟩
  rw [Nat.zero_add, h.cellAt j hj2, ← flat_cells, getElem!_pos _ j hj, Array.getElem?_toList, Array.getElem?_eq_getElem hj]
  rfl
theorem own_sorted {w : World} {base g n c m : Nat} {d d' : Array Prp} {os : Array Obj} (hn : d.size = n) (hs : d'.size = d.size) (h : w.ownsRow base 41 5 (.slice (some ⟨g, 0, none⟩) n c) n (cellsP d.toList)) :
    (sortWorldK encP 5 w g 0 m d' os).ownsRow base 41 5 (.slice (some ⟨g, 0, none⟩) n c) n (cellsP d'.toList) ∧ Below g w (sortWorldK encP 5 w g 0 m d' os) := by
  have hlen : (cellsP d'.toList).length = n * 5 := by rw [cellsP_len]; simp [hs, hn]
  rcases h.2 with ⟨hv, h0⟩ | ⟨g', cap, cur, hv, hb, hg, hnc, hcm, hcs, htk⟩
  · cases hv
  · have hgg : g = g' := by
      have := (Value.slice.inj hv).1
      simpa using this
    subst hgg
    have hcc : c = cap := (Value.slice.inj hv).2.2
    subst hcc
    have hlt : g < w.heap.size := (Array.getElem?_eq_some_iff.1 hg).1
    have hheap : (sortWorldK encP 5 w g 0 m d' os).heap[g]? = some (.cells (Sort.putCells id 0 (flatK encP 5 d') cur) 41 (0, 0)) := by
      unfold sortWorldK putRowK Sort.putRow Sort.mapBlock Sort.grow Sort.ahead
      show (w.heap.modify g _ ++ os)[g]? = _
      rw [Array.getElem?_append_left (by simpa using hlt), Array.getElem?_modify, if_pos rfl, hg]
      rfl
    refine ⟨⟨hlen, .inr ⟨g, c, _, rfl, hb, hheap, hnc, hcm, ?_, ?_⟩⟩, ?_⟩
    · unfold Sort.putCells; rw [Array.size_mapIdx]; exact hcs
    · apply List.ext_getElem?
      intro j
      rw [List.getElem?_take]
      have hfs : (flatK encP 5 d').size = n * 5 := by rw [size_flatK, hs, hn]
      have hm : n * 5 ≤ cur.size := by rw [hcs]; exact Nat.mul_le_mul_right 5 hnc
      by_cases hj : j < n * 5
      · rw [if_pos hj, ← flat_cells, Array.getElem?_toList, Array.getElem?_toList]
        unfold Sort.putCells
        rw [Array.getElem?_mapIdx, Array.getElem?_eq_getElem (show j < cur.size by omega), Option.map_some, if_pos (by omega), Array.getElem?_eq_getElem (show j < (flatK encP 5 d').size by omega)]
        rw [Nat.sub_zero, getElem!_pos _ j (by omega)]
        rfl
      · rw [if_neg hj, List.getElem?_eq_none (by omega)]
    · refine ⟨rfl, rfl, rfl, ?_, fun k hk => ?_⟩
      · unfold sortWorldK putRowK Sort.putRow Sort.mapBlock Sort.grow Sort.ahead
        simp
      · unfold sortWorldK putRowK Sort.putRow Sort.mapBlock Sort.grow Sort.ahead
        show (w.heap.modify g _ ++ os)[k]? = _
        rw [Array.getElem?_append_left (by simp; omega), Array.getElem?_modify, if_neg (by omega)]

set_option maxHeartbeats 1000000 in
theorem closure_any (x y : Prp) (W : World) : Calls Tryd.prog 75 #[.agg (encP x).toArray, .agg (encP y).toArray] W fun e w' => e = .returned (.int .i64 (cfP x y)) ∧ ∃ q os', w' = Sort.grow (W.drewN q) os' := by
  obtain ⟨a, b, c, q, d⟩ := x
  obtain ⟨a', b', c', q', d'⟩ := y
  have HC := Lib.hid (Tryd.strings_Compare a a')
  have HR : Hid (Lib.compareBytes a.data.toList a'.data.toList = cfP (a, b, c, q, d) (a', b', c', q', d')) := Lib.hid rfl
  generalize Lib.compareBytes a.data.toList a'.data.toList = r at HC HR
  rw [← HR.out]
  show Calls Tryd.prog 75 #[.agg #[.string a, .int .i64 b, .string c, .bool q, .string d], .agg #[.string a', .int .i64 b', .string c', .bool q', .string d']] W _
  go_enter Tryd.func75, Tryd.ntmps75
  go_wp2_with fail
  refine (HC.out _).mono ?_
  rintro e w1 ⟨rfl, rfl⟩
  go_wp2_with fail
  go_ret
  exact ⟨rfl, 0, _, by rw [Sort.alloc_eq_grow, Sort.alloc_eq_grow, Sort.grow_grow]; rfl⟩

set_option maxHeartbeats 1000000 in
theorem rising_any (base g c n : Nat) (d t : List Prp) (W : World) (hown : W.ownsRow base 41 5 (.slice (some ⟨g, 0, none⟩) n c) n (cellsP d)) (hn : d.length = n) (hp : d.Perm t) (htp : t.Pairwise (fun x y => nmP x < nmP y)) (hg : g < W.heap.size) (h62 : n < 1000) :
    Calls Tryd.prog 52 #[.slice (some ⟨g, 0, none⟩) n c] W fun e w' => e = .returned (.slice (some ⟨g, 0, none⟩) n c) ∧ w'.ownsRow base 41 5 (.slice (some ⟨g, 0, none⟩) n c) n (cellsP t) ∧ Below g W w' := by
  have hsz : d.toArray.size = n := by simpa using hn
  have hown2 : W.ownsRow base 41 5 (.slice (some ⟨g, 0, none⟩) n c) n (cellsP d.toArray.toList) := by simpa using hown
  have eg : ∀ args w, (callFunc 75 args).run Tryd.prog w = .ok (.enter 75 args) w := enters_of Tryd.func75 (by kernel_rfl) rfl
  have hcon := AnyQ.slices_SortFunc Tryd.sortL 5 Tryd.isAgg41 Tryd.sizeOf41 encP (fun _ => rfl) (fun x v hv => by
    simp only [encP, List.mem_cons, List.not_mem_nil, or_false] at hv
    rcases hv with rfl | rfl | rfl | rfl | rfl <;> rfl) cfP swoP 75 #[] g 0 c d.toArray W eg (fun m os dk hdk x y => by simpa using closure_any x y _) (holds_own hsz hown2) hg (by rw [hsz]; omega)
  change Calls Tryd.prog 74 _ _ _ at hcon
  have hcon2 : Calls Tryd.prog 74 #[.slice (some ⟨g, 0, none⟩) n c, .func (.func 75) #[] #[]] W fun e w' => e = .returned (.tuple #[]) ∧ w'.ownsRow base 41 5 (.slice (some ⟨g, 0, none⟩) n c) n (cellsP t) ∧ Below g W w' := by
    rw [hsz] at hcon
    refine hcon.mono ?_
    rintro e w' ⟨he, d', m, os, hp', hs', rfl⟩
    have h1 : d'.toList = t := by
      rw [← hsz] at hp' hs'
      exact sorted_of hp' hs' (by simpa using hp) htp
    obtain ⟨a, b⟩ := own_sorted (m := m) (os := os) hsz hp'.1 hown2
    rw [h1] at a
    exact ⟨he, a, b⟩
  have HC := Lib.hid hcon2
  clear hcon hcon2 hown hown2 eg
  go_enter Tryd.func52, Tryd.ntmps52
  go_wp2_with fail
  refine HC.out.mono ?_
  rintro e w1 ⟨rfl, ho, hb⟩
  have Ho := Lib.hid ho
  have Hb := Lib.hid hb
  clear ho hb
  go_wp2_with fail
  go_ret
  exact ⟨rfl, Ho.out, Hb.out⟩
end Go.Proofs.YtijpbfafkdpolaaDoor
