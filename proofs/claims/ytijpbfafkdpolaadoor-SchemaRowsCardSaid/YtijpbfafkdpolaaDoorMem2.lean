import Derived.Test.YtijpbfafkdpolaaDoorMem
namespace Go.Proofs.YtijpbfafkdpolaaDoor
open Go.RowKit
theorem own_below {w w' : World} {base e size n B : Nat} {v : Value} {xs : List Value} (h : w.ownsRow base e size v n xs) (hb : Below B w w') (hB : w.heap.size ≤ B) : w'.ownsRow base e size v n xs := by
  refine ⟨h.1, ?_⟩
  rcases h.2 with h | ⟨g, cap, cur, rfl, hg, hh, r⟩
  · exact .inl h
  · have hlt := (Array.getElem?_eq_some_iff.1 hh).1
    exact .inr ⟨g, cap, cur, rfl, hg, by rw [hb.block g (by omega)]; exact hh, r⟩
end Go.Proofs.YtijpbfafkdpolaaDoor
