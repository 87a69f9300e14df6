import Derived.Test.YtebfnglhbfkkdaaF13
namespace Go.Proofs.Ytebfnglhbfkkdaa
open Go.RowKit

/-- what a round leaves as it was: all that was there when the loop began, and the loop's own two blocks, but for the caller's box -/
def Kept (B0 T : Nat) (W W' : World) : Prop := ∀ k, k < T → k ≠ B0 → W'.heap[k]? = W.heap[k]?

theorem Box3.of_heap {W W' : World} {B : Nat} {q : ByteArray} (h : Box3 W B q) (e0 : W'.heap[B]? = W.heap[B]?) (e1 : W'.heap[B + 1]? = W.heap[B + 1]?) (e2 : W'.heap[B + 1 + 1]? = W.heap[B + 1 + 1]?) : Box3 W' B q :=
  ⟨(World.cell?_of_block e0).trans h.c0, (World.frozen?_of_block e0).trans h.f0, (World.cell?_of_block e1).trans h.c1, (World.cell?_of_block e2).trans h.c2⟩

/-- a range over the terms of a question, the body of which is never left early -/
theorem range_terms {n : Nat} {g : Operand} {ps : Array Tmp} {assign body : Code} {Q : Exit → Act → World → Prop} {a : Act} {w : World} (B0 B : Nat) (q : ByteArray) (hq : q.size ≤ 1000000)
    (hg : a.eval g = .func (.func 32) #[] #[.pointer (some ⟨B, 0, none⟩), .pointer (some ⟨B + 1, 0, none⟩), .pointer (some ⟨B + 1 + 1, 0, none⟩)]) (hps : ps.size = 1)
    (hb : Box3 w B q) (hB0 : B0 < B) (hBw : B + 1 + 1 < w.heap.size)
    (I : List ByteArray → World → Prop) (hId : ∀ s W k, I s W → I s (W.drewN k)) (hIs : ∀ s W v, I s W → I s (W.setCell ⟨B, 0, none⟩ v))
    (hIp : ∀ s W o, I s W → I s (W.putObj (w.heap.size + 1) o)) (h0 : ∀ o o', I [] ((w.alloc o).alloc o')) (a₁ : ByteArray → Act)
    (hassign : ∀ (l : Nat) (x : ByteArray) (W : World) (K : Act → World → Prop), K (a₁ x) W →
      assign.wpIn (Fence.wide.inRound l) n Try.prog (Exit.then K (fun _ _ _ => False)) { tmps := (ps.zip #[.string x]).foldl (fun t (p, v) => t.setIfInBounds p v) a.tmps, defers := [] } W)
    (hbody : ∀ (l : Nat) (pre : List ByteArray) (x : ByteArray) (W : World), I pre W → pre.length < (termsF q).length → w.heap.size + 2 ≤ W.heap.size →
      body.wpIn (Fence.wide.inRound l) n Try.prog (fun e _ W' => e = .normal ∧ Kept B0 (w.heap.size + 2) W W' ∧ I (pre ++ [x]) W') (a₁ x) W)
    (hdone : ∀ (W : World), I (termsF q) W → W.heap[w.heap.size]? = some (.deferred (some [])) → Q .normal { a with defers := { target := .collected w.heap.size, args := #[] } :: a.defers } W) :
    (Code.rangeFunc g ps assign body).wpIn Fence.wide (n + 2) Try.prog Q a w := by
  refine wpIn_rangeFunc ?_
  intro fn hfn
  obtain ⟨r0, hr0⟩ : ∃ r0 : Loop, r0 = { state := .ready, pending := none, fn, tmps := a.tmps, params := ps, assign, body, defers := w.heap.size } := ⟨_, rfl⟩
  have s0 : r0.state = .ready := by rw [hr0]
  obtain ⟨W1, hW1⟩ : ∃ W1, (w.alloc (.deferred (some []))).alloc (.loop r0) = W1 := ⟨_, rfl⟩
  have hL1 : W1.heap[w.heap.size + 1]? = some (.loop r0) := by
    rw [← hW1]; have := World.alloc_heap_new (w.alloc (.deferred (some []))) (.loop r0); rwa [World.size_alloc] at this
  have hK1 : W1.heap[w.heap.size]? = some (.deferred (some [])) := by
    rw [← hW1]; exact (Below.heap_alloc _ _ _ (by simp)).trans (World.alloc_heap_new w _)
  have hbl : Below w.heap.size w W1 := by
    rw [← hW1]; exact ((Below.refl _ w).alloc (Nat.le_refl _) _).alloc (by simp) _
  have hI1 : I [] W1 := by rw [← hW1]; exact h0 _ _
  have hb1 : Box3 W1 B q := hb.of_heap (hbl.block _ (by omega)) (hbl.block _ (by omega)) (hbl.block _ (by omega))
  refine ⟨w.heap.size + 1, [{ target := .collected w.heap.size, args := #[] }], W1, { target := .fn (.func 32) #[.pointer (some ⟨B, 0, none⟩), .pointer (some ⟨B + 1, 0, none⟩), .pointer (some ⟨B + 1 + 1, 0, none⟩)], args := #[.func (.yield (w.heap.size + 1)) #[] #[]] }, W1, 32,
    #[.func (.yield (w.heap.size + 1)) #[] #[]] ++ #[.pointer (some ⟨B, 0, none⟩), .pointer (some ⟨B + 1, 0, none⟩), .pointer (some ⟨B + 1 + 1, 0, none⟩)], W1, ?_, ?_, ?_, ?_, fun _ => by omega, ?_⟩
  · rw [← hW1, hr0]; exact run_enterLoop_outer _ _ _ _ _
  · simp only [resolve, hg]
    simp [go_sem]
  · intro f' _; trivial
  · have eg := enters_of Try.func32 (by kernel_rfl) rfl
    simp [invoke, go_sem, eg]
  · refine callsIn_wide.2 ?_
    refine (it_any n (w.heap.size + 1) B q hq (fun pre W => I pre W ∧ W.heap[w.heap.size + 1]? = some (.loop r0) ∧ W.heap[w.heap.size]? = some (.deferred (some [])))
      (fun s W k h => ⟨hId s W k h.1, h.2⟩)
      (fun s W v h => ⟨hIs s W v h.1, (Below.heap_setCell W ⟨B, 0, none⟩ v _ (by show w.heap.size + 1 ≠ B; omega)).trans h.2.1, (Below.heap_setCell W ⟨B, 0, none⟩ v _ (by show w.heap.size ≠ B; omega)).trans h.2.2⟩)
      ?_ W1 hb1 ⟨hI1, hL1, hK1⟩).mono ?_
    · rintro pre x W q' ⟨hi, hl, hk⟩ hbx hlen
      have hlt : w.heap.size + 1 < W.heap.size := (Array.getElem?_eq_some_iff.1 hl).1
      have hy := run_yield (P := Try.prog) (args := #[.string x]) hl (by rw [hr0]; exact hps.symm)
      refine ⟨_, _, _, _, hy, ?_⟩
      rw [hr0]
      refine roundIn_of_wpIn trivial (hassign _ x W _ ⟨_, run_beginRound hl s0, ?_⟩)
      have hl2 : (W.putObj (w.heap.size + 1) (.loop { r0 with state := .busy })).heap[w.heap.size + 1]? = some (.loop { r0 with state := .busy }) := World.putObj_heap_same hlt
      have hk2 : (W.putObj (w.heap.size + 1) (.loop { r0 with state := .busy })).heap[w.heap.size]? = some (.deferred (some [])) := (World.putObj_heap_other (by omega)).trans hk
      have hb2 : Box3 (W.putObj (w.heap.size + 1) (.loop { r0 with state := .busy })) B q' :=
        hbx.of_heap (World.putObj_heap_other (by omega)) (World.putObj_heap_other (by omega)) (World.putObj_heap_other (by omega))
      refine wpIn_mono (hbody _ pre x _ (hIp _ _ _ hi) hlen (by rw [World.putObj_size]; omega)) ?_
      rintro e a3 W3 ⟨rfl, hkept, hi3⟩
      have hl3 := (hkept (w.heap.size + 1) (by omega) (by omega)).trans hl2
      have hk3 := (hkept w.heap.size (by omega) (by omega)).trans hk2
      have hb3 : Box3 W3 B q' := hb2.of_heap (hkept _ (by omega) (by omega)) (hkept _ (by omega) (by omega)) (hkept _ (by omega) (by omega))
      have hend := run_endRound (P := Try.prog) none hl3
      refine ⟨_, _, hend, rfl, ⟨hIp _ _ _ hi3, ?_, (World.putObj_heap_other (by omega)).trans hk3⟩, hb3.of_heap (World.putObj_heap_other (by omega)) (World.putObj_heap_other (by omega)) (World.putObj_heap_other (by omega))⟩
      rw [World.putObj_heap_same (Array.getElem?_eq_some_iff.1 hl3).1]
      rw [hr0]
      rfl
    · rintro e W2 ⟨⟨v, rfl⟩, hi, hl, hk⟩
      refine ⟨r0.pending, _, run_endLoop (P := Try.prog) hl (by rw [s0]; simp), ?_⟩
      have hp : r0.pending = none := by rw [hr0]
      rw [hp]
      exact hdone _ (hIp _ _ _ hi) ((World.putObj_heap_other (by omega)).trans hk)
end Go.Proofs.Ytebfnglhbfkkdaa
