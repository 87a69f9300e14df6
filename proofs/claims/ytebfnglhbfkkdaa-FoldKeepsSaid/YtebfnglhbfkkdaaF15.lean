import Derived.Test.YtebfnglhbfkkdaaF14
import Derived.Maps.AppendAt
import Derived.RangeFuncBox
namespace Go.Proofs.Ytebfnglhbfkkdaa
open Go.RowKit

attribute [local go_sem] Oper.semAt_some

/-- the caller's box holds a slice that owns what has come -/
def Got (n0 : Nat) (w : World) (pre : List ByteArray) (W : World) : Prop :=
  ∃ v, W.cell? ⟨n0, 0, none⟩ = some v ∧ W.frozen? ⟨n0, 0, none⟩ = false ∧ W.ownsRow (n0 + 6) 9 1 v pre.length (pre.map Value.string) ∧ Below n0 w W ∧ n0 + 4 ≤ W.heap.size

theorem Got.heap {n0 : Nat} {w W W' : World} {pre : List ByteArray} (h : Got n0 w pre W) (hb : Below n0 w W') (hz : W.heap.size ≤ W'.heap.size) (hk : ∀ k, k = n0 ∨ n0 + 6 ≤ k → W'.heap[k]? = W.heap[k]?) : Got n0 w pre W' := by
  obtain ⟨v, h1, h2, ⟨h3, h4⟩, h5, h6⟩ := h
  refine ⟨v, (World.cell?_of_block (hk _ (.inl rfl))).trans h1, (World.frozen?_of_block (hk _ (.inl rfl))).trans h2, ⟨h3, ?_⟩, hb, by omega⟩
  rcases h4 with h4 | ⟨g, cap, cur, rfl, hg, hh, r⟩
  · exact .inl h4
  · exact .inr ⟨g, cap, cur, rfl, hg, (hk _ (.inr hg)).trans hh, r⟩
theorem Got.drewN {n0 : Nat} {w W : World} {pre : List ByteArray} (h : Got n0 w pre W) (n : Nat) : Got n0 w pre (W.drewN n) :=
  h.heap (by obtain ⟨_, _, _, _, hb, _⟩ := h; exact hb.trans (Dr.below ⟨n, rfl⟩)) (Nat.le_refl _) (fun _ _ => rfl)
theorem Got.set {n0 : Nat} {w W : World} {pre : List ByteArray} (h : Got n0 w pre W) (v : Value) : Got n0 w pre (W.setCell ⟨n0 + 1, 0, none⟩ v) :=
  h.heap (by obtain ⟨_, _, _, _, hb, _⟩ := h; exact hb.setCell (p := ⟨n0 + 1, 0, none⟩) (Nat.le_succ _) v) (by show W.heap.size ≤ (W.heap.modify _ _).size; rw [Array.size_modify]; exact Nat.le_refl _)
    (fun k hk => Below.heap_setCell W _ v k (by show k ≠ n0 + 1; omega))
theorem Got.put {n0 l : Nat} {w W : World} {pre : List ByteArray} (h : Got n0 w pre W) (hn : n0 ≤ w.heap.size) (hl : l = n0 + 5) (o : Obj) : Got n0 w pre (W.putObj l o) :=
  h.heap (by obtain ⟨_, _, _, _, hb, _⟩ := h; exact hb.grown (grownBy_putObj' W l o) (Nat.le_trans hn hb.size) (fun k e => by cases e; omega)) (by rw [World.putObj_size]; exact Nat.le_refl _)
    (fun k hk => World.putObj_heap_other (by omega))

theorem own_keep {W W' : World} {base e size n : Nat} {v : Value} {xs : List Value} (h : W.ownsRow base e size v n xs) (hk : ∀ k, base ≤ k → W'.heap[k]? = W.heap[k]?) : W'.ownsRow base e size v n xs := by
  obtain ⟨h3, h4⟩ := h
  refine ⟨h3, ?_⟩
  rcases h4 with h4 | ⟨g, cap, cur, rfl, hg, hh, r⟩
  · exact .inl h4
  · exact .inr ⟨g, cap, cur, rfl, hg, (hk _ hg).trans hh, r⟩

/-- behind the append and the store back -/
theorem got_step {n0 : Nat} {w W w1 : World} {pre : List ByteArray} {x : ByteArray} {v v' : Value} (hn0 : n0 ≤ w.heap.size) (hz : n0 + 4 + 2 ≤ W.heap.size) (hv : W.cell? ⟨n0, 0, none⟩ = some v) (hf : W.frozen? ⟨n0, 0, none⟩ = false)
    (hown : W.ownsRow (n0 + 6) 9 1 v pre.length (pre.map Value.string)) (hB : Below n0 w W)
    (hown' : w1.ownsRow (n0 + 6) 9 1 v' (pre.length + 1) (pre.map Value.string ++ [Value.string x])) (hgrow : (W.alloc (Obj.cells #[Value.string x] 9)).grownBy w1 v.ownBlock) :
    w1.cell? ⟨n0, 0, none⟩ = some v ∧ w1.frozen? ⟨n0, 0, none⟩ = false ∧ Kept n0 (n0 + 4 + 2) W (w1.setCell ⟨n0, 0, none⟩ v') ∧ Got n0 w (pre ++ [x]) (w1.setCell ⟨n0, 0, none⟩ v') := by
  have hlt := (hown.alloc (Obj.cells #[Value.string x] 9)).lt
  have hkeep : ∀ k, k < n0 + 6 → w1.heap[k]? = W.heap[k]? := fun k hk =>
    (hgrow.block k (by rw [World.size_alloc]; omega) (fun e => by have := (hlt k e.symm).1; omega)).trans (Below.heap_alloc W _ k (by omega))
  have hc1 : w1.cell? ⟨n0, 0, none⟩ = some v := (World.cell?_of_block (hkeep _ (by show n0 < n0 + 6; omega))).trans hv
  have hf1 : w1.frozen? ⟨n0, 0, none⟩ = false := (World.frozen?_of_block (hkeep _ (by show n0 < n0 + 6; omega))).trans hf
  have hz1 : W.heap.size + 1 ≤ w1.heap.size := by have := hgrow.size; rwa [World.size_alloc] at this
  have hs : (w1.setCell ⟨n0, 0, none⟩ v').heap.size = w1.heap.size := by show (w1.heap.modify _ _).size = _; rw [Array.size_modify]
  refine ⟨hc1, hf1, fun k hk hne => (Below.heap_setCell w1 _ v' k (by show k ≠ n0; exact hne)).trans (hkeep k (by omega)), v', World.cell?_setCell_same _ _ _ hc1, by rw [World.frozen?_setCell]; exact hf1, ?_, ?_, by rw [hs]; omega⟩
  · have h1 := own_keep hown' (W' := w1.setCell ⟨n0, 0, none⟩ v') (fun k hk => Below.heap_setCell w1 _ v' k (by show k ≠ n0; omega))
    rw [List.length_append, List.map_append]
    exact h1
  · have hb1 : Below n0 w w1 := Below.own (hB.alloc (by omega) _) (hown.alloc _) hgrow (by rw [World.size_alloc]; omega) (by omega)
    exact hb1.setCell (p := ⟨n0, 0, none⟩) (Nat.le_refl _) v'

set_option maxRecDepth 100000
set_option maxHeartbeats 4000000 in
theorem terms_any (q : ByteArray) (w : World) (hq : q.size ≤ 1000000) : Calls Try.prog 17 #[.string q] w (TermsPost q w) := by
  have hlen := termsF_len q
  refine (callsIn_wide (n := 7)).1 ?_
  refine callsIn_of_wp_marks Try.func17 rfl trivial ?_ rfl
  simp only [Try.ntmps17, List.size_toArray, List.length_cons, List.length_nil, Nat.reduceAdd, Nat.reduceSub, Array.replicate_succ, Array.replicate_zero, List.push_toArray, List.append_toArray, List.nil_append, List.cons_append]
  gi_wp2_with (refine ⟨trivial, ?_⟩; gi_at_call 25; refine (callsIn_wide.2 (terms_new q _)).mono ?_; rintro e w' ⟨rfl, rfl⟩)
  obtain ⟨W0, hW0⟩ : ∃ W0, newW q (w.alloc (Obj.cells #[Value.slice none 0 0] 26)) = W0 := ⟨_, rfl⟩
  have hb3 : Box3 W0 (w.heap.size + 1) q := by
    have := Box3.new q (w.alloc (Obj.cells #[Value.slice none 0 0] 26))
    rw [World.size_alloc] at this
    rwa [← hW0]
  have hbw : Below w.heap.size w W0 := by
    rw [← hW0]
    exact ((Below.refl _ w).alloc (Nat.le_refl _) _).trans ((newW_below q _).mono (by simp))
  have hsz : W0.heap.size = w.heap.size + 4 := by rw [← hW0, newW_size, World.size_alloc]
  have hnb := newW_below q (w.alloc (Obj.cells #[Value.slice none 0 0] 26))
  rw [hW0, World.size_alloc] at hnb
  have hc0 : W0.cell? ⟨w.heap.size, 0, none⟩ = some (.slice none 0 0) := by
    rw [hnb.cell (p := ⟨w.heap.size, 0, none⟩) (Nat.lt_succ_self _), World.cell?_alloc_at _ _ _ _ rfl]; rfl
  have hf0 : W0.frozen? ⟨w.heap.size, 0, none⟩ = false := by
    rw [hnb.frozen (p := ⟨w.heap.size, 0, none⟩) (Nat.lt_succ_self _), World.frozen?_alloc_at _ _ _ _ rfl]
  rw [hW0]
  clear hnb hW0
  have Hsz := Lib.hid hsz
  have hbk : w.heap.size + 1 + 1 + 1 < W0.heap.size := by rw [hsz]; omega
  have h00 : ∀ o o', Got w.heap.size w [] ((W0.alloc o).alloc o') := fun o o' =>
    ⟨_, by rw [World.cell?_alloc_past _ _ _ (by rw [World.size_alloc, hsz]; omega), World.cell?_alloc_past _ _ _ (by rw [hsz]; omega)]; exact hc0,
      by rw [World.frozen?_alloc_past _ _ _ (by rw [World.size_alloc, hsz]; omega), World.frozen?_alloc_past _ _ _ (by rw [hsz]; omega)]; exact hf0,
      World.ownsRow_nil _ _ _ _, (hbw.alloc (by omega) _).alloc (by rw [World.size_alloc]; omega) _, by rw [World.size_alloc, World.size_alloc]; omega⟩
  refine range_terms (n := 5) w.heap.size (w.heap.size + 1) q hq rfl rfl hb3 (by omega) hbk (Got w.heap.size w) (fun s W k h => h.drewN k) (fun s W v h => h.set v)
    (fun s W o h => h.put (Nat.le_refl _) (by rw [hsz]) o) h00
    (fun x => { tmps := #[.string q, undef, .slice none 0 0, .pointer (some ⟨w.heap.size, 0, none⟩), .string x, .string q, .func (.func 32) #[] #[.pointer (some ⟨w.heap.size + 1, 0, none⟩), .pointer (some ⟨w.heap.size + 1 + 1, 0, none⟩), .pointer (some ⟨w.heap.size + 1 + 1 + 1, 0, none⟩)], .string x, undef, undef, undef, undef, undef], defers := [] }) ?assign ?body ?done
  case assign =>
    intro l x W K hK
    gi_wp2
    exact hK
  case body =>
    intro l pre x W hG hlt hz
    rw [hsz] at hz ⊢
    have hlen2 : pre.length ≤ 1000000 := by omega
    obtain ⟨v, hv, hf, hown, hB, h4⟩ := hG
    clear hc0 hf0 hb3 h00 hbw hsz hbk
    obtain ⟨i0, hi, hz0, hz1, hz2⟩ := info_parts info9
    have Hown := Lib.hid hown
    have HB := Lib.hid hB
    clear hown hB
    gi_wp2_with (gi_at_builtin; refine wpListIn_append_own _ rfl _ _ 26 rfl (w.heap.size + 6) 9 i0 (.string ⟨#[]⟩) 1 16 Try.underlying26 hi hz0 hz1 hz2 rfl (by decide) _ _ _ rfl (Hown.out.alloc _) ⟨W.heap.size, 0, none⟩ 1 1 [.string x] rfl rfl (cell_one_new _ _ _) (by simp [Value.oneCell']) ?c3 ?c4 ?c5 ?_)
    case c3 => simp only [maxLen]; omega
    case c4 => omega
    case c5 => rw [World.size_alloc]; omega
    intro v' w1 hown' hgrow _
    have Hst := Lib.hid (got_step (x := x) (Nat.le_refl _) hz hv hf Hown.out HB.out hown' hgrow)
    obtain ⟨g', cap', rfl⟩ := ownsRow_succ hown'
    have hc1 := Hst.out.1
    have hf1 := Hst.out.2.1
    clear hown' hgrow hv hf
    gi_wp2
    exact ⟨Hst.out.2.2.1, Hst.out.2.2.2⟩
  case done =>
    intro W hG hK
    obtain ⟨v, hv, hf, hown, hB, h4⟩ := hG
    obtain ⟨A1, c1, rfl⟩ := own_form hown
    gi_wp2
    refine ⟨by simp, .inl ⟨_, _, rfl, run_takeDeferred hK, ?_⟩⟩
    refine ⟨_, results_tmp rfl _ _ _, A1, c1, rfl, own_base (ownsRow_putObj hown _ hK rfl) (by omega), ?_⟩
    exact hB.grown (grownBy_putObj' W _ _) (Nat.le_trans (Nat.le_refl _) hB.size) (fun k e => by cases e; rw [hsz]; omega)
end Go.Proofs.Ytebfnglhbfkkdaa
