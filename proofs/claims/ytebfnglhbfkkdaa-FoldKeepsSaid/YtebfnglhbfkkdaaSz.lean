import Derived.SizedLaws
import Derived.SliceStrings
namespace Go.Proofs.Ytebfnglhbfkkdaa
open Go.ChangeShapes Go.WideShapes

theorem mem_weightsAll {H : Type} {P : Program} {e : TypeId} : ∀ (xs : List ByteArray) (x : ByteArray), x ∈ xs → x.size ∈ DataW.weightsAll (H := H) P e (strs xs)
  | y :: r, x, h => by
    simp only [strs, List.map_cons, DataW.weightsAll, DataW.weights, List.mem_append, List.mem_singleton]
    rcases List.mem_cons.1 h with rfl | h
    · left; simp
    · right; exact mem_weightsAll r x h
theorem sized_strs {H : Type} {P : Program} {ts : List TypeId} {ds : List (DataW H)} (h : (DataW.weightsEach P ts ds).all (· ≤ reachBytes) = true) {j : Nat} {t e : TypeId} {xs : List ByteArray} {spare : List (DataW H)} (ht : ts[j]? = some t) (hd : ds[j]? = some (.slice (strs xs) spare)) (hu : P.underlying t = some (.slice e)) :
    ∀ x ∈ xs, x.size ≤ reachBytes := by
  intro x hx
  have := List.all_eq_true.1 h _ (DataW.weights_mem_each ht hd x.size (by simp only [DataW.weights, hu]; exact List.mem_cons_of_mem _ (List.mem_append_left _ (mem_weightsAll xs x hx))))
  simpa using this
end Go.Proofs.Ytebfnglhbfkkdaa
