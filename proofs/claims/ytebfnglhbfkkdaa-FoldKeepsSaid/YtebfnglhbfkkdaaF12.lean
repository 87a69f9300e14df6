import Derived.Test.YtebfnglhbfkkdaaF9
import Derived.Laws.EntriesVeiled
namespace Go.Proofs.Ytebfnglhbfkkdaa
open Go.RowKit

/-- what a call of terms makes: the boxes of the question and of the two tests -/
def newW (q : ByteArray) (w : World) : World := ((w.alloc (.cells #[.string q] 9)).alloc (.cells #[.func (.func 30) #[] #[]] 37)).alloc (.cells #[.func (.func 31) #[] #[]] 37)

set_option maxHeartbeats 400000 in
theorem terms_new (q : ByteArray) (w : World) :
    Calls Try.prog 25 #[.string q] w fun e w' => e = .returned (.func (.func 32) #[] #[.pointer (some ⟨w.heap.size, 0, none⟩), .pointer (some ⟨w.heap.size + 1, 0, none⟩), .pointer (some ⟨w.heap.size + 1 + 1, 0, none⟩)]) ∧ w' = newW q w := by
  go_enter Try.func25, Try.ntmps25
  go_wp2
  go_ret
  exact ⟨rfl, rfl⟩

/-- the three boxes -/
structure Box3 (W : World) (B : Nat) (q : ByteArray) : Prop where
  c0 : W.cell? ⟨B, 0, none⟩ = some (.string q)
  f0 : W.frozen? ⟨B, 0, none⟩ = false
  c1 : W.cell? ⟨B + 1, 0, none⟩ = some (.func (.func 30) #[] #[])
  c2 : W.cell? ⟨B + 1 + 1, 0, none⟩ = some (.func (.func 31) #[] #[])
theorem Box3.drewN {W : World} {B : Nat} {q : ByteArray} (h : Box3 W B q) (n : Nat) : Box3 (W.drewN n) B q := ⟨h.c0, h.f0, h.c1, h.c2⟩
theorem Box3.set {W : World} {B : Nat} {q : ByteArray} (h : Box3 W B q) (q' : ByteArray) : Box3 (W.setCell ⟨B, 0, none⟩ (.string q')) B q' :=
  ⟨World.cell?_setCell_same _ _ _ h.c0, by rw [World.frozen?_setCell]; exact h.f0,
   by rw [World.cell?_setCell_other _ _ _ _ (fun e => by injection e with e1; omega)]; exact h.c1,
   by rw [World.cell?_setCell_other _ _ _ _ (fun e => by injection e with e1; omega)]; exact h.c2⟩
theorem Box3.new (q : ByteArray) (w : World) : Box3 (newW q w) w.heap.size q := by
  unfold newW
  have s1 : (w.alloc (.cells #[.string q] 9)).heap.size = w.heap.size + 1 := by simp
  have s2 : ((w.alloc (.cells #[.string q] 9)).alloc (.cells #[.func (.func 30) #[] #[]] 37)).heap.size = w.heap.size + 1 + 1 := by simp
  refine ⟨?_, ?_, ?_, ?_⟩
  · rw [World.cell?_alloc_past _ _ _ (by omega), World.cell?_alloc_past _ _ _ (by omega), World.cell?_alloc_at _ _ _ _ rfl]; rfl
  · rw [World.frozen?_alloc_past _ _ _ (by omega), World.frozen?_alloc_past _ _ _ (by omega), World.frozen?_alloc_at _ _ _ _ rfl]
  · rw [World.cell?_alloc_past _ _ _ (by omega), World.cell?_alloc_at _ _ _ _ s1.symm]; rfl
  · rw [World.cell?_alloc_at _ _ _ _ s2.symm]; rfl
theorem newW_below (q : ByteArray) (w : World) : Below w.heap.size w (newW q w) := by
  unfold newW
  exact (((Below.refl _ w).alloc (Nat.le_refl _) _).alloc (by simp) _).alloc (by simp; omega) _
theorem newW_size (q : ByteArray) (w : World) : (newW q w).heap.size = w.heap.size + 1 + 1 + 1 := by unfold newW; simp
end Go.Proofs.Ytebfnglhbfkkdaa
