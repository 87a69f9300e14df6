import Derived.WalkKit
import Derived.Shelf.SlSortCmp.WholeK
import Derived.Shelf.Small.Strs
namespace Go.Proofs.YtijpbfafkdpolaaDoor
open Go.RowKit Go.Shelf Go.Sort

/-! ### members; their order by name -/
@[reducible] def Prp : Type := ByteArray × Int × ByteArray × Bool × ByteArray
def encP (p : Prp) : List Value := [.string p.1, .int .i64 p.2.1, .string p.2.2.1, .bool p.2.2.2.1, .string p.2.2.2.2]
def cellsP (l : List Prp) : List Value := l.flatMap encP
def nmP (p : Prp) : List UInt8 := p.1.data.toList
def cfP (x y : Prp) : Int := Lib.compareBytes (nmP x) (nmP y)
theorem cmp_lt : ∀ (l l' : List UInt8), (Lib.compareBytes l l' < 0) ↔ l < l'
  | [], [] => by simp [Lib.compareBytes]
  | [], _ :: _ => by simp [Lib.compareBytes]
  | _ :: _, [] => by simp [Lib.compareBytes]
  | a :: x, b :: y => by
    have ih := cmp_lt x y
    unfold Lib.compareBytes
    rw [List.cons_lt_cons_iff]
    by_cases h1 : a < b
    · simp [h1]
    · by_cases h2 : b < a
      · have hne : a ≠ b := by rintro rfl; exact h1 h2
        simp [h1, h2, hne]
      · have he : a = b := UInt8.toNat_inj.1 (by rw [UInt8.lt_iff_toNat_lt] at h1 h2; omega)
        subst he
        simpa [h1] using ih
theorem lt_iffP (x y : Prp) : ltOf cfP x y = decide (nmP x < nmP y) := by
  unfold ltOf cfP
  exact decide_eq_decide.2 (cmp_lt _ _)
theorem swoP : SWO (ltOf cfP) where
  irrefl x := by rw [lt_iffP]; exact decide_eq_false (List.lt_irrefl _)
  trans x y z h1 h2 := by
    rw [lt_iffP] at *
    exact decide_eq_true (List.lt_trans (of_decide_eq_true h1) (of_decide_eq_true h2))
  ntrans x y z h1 h2 := by
    rw [lt_iffP] at *
    have a := List.not_lt.1 (of_decide_eq_false h1)
    have b := List.not_lt.1 (of_decide_eq_false h2)
    exact decide_eq_false (List.not_lt.2 (List.le_trans b a))
theorem sorted_one : ∀ (t l : List Prp), l.Perm t → l.Pairwise (fun x y => ¬ nmP y < nmP x) → t.Pairwise (fun x y => nmP x < nmP y) → l = t
  | [], l, hp, _, _ => hp.eq_nil
  | a :: t, l, hp, hl, ht => by
    cases l with
    | nil => exact absurd hp.symm.eq_nil (by simp)
    | cons b l =>
      have e : b = a := by
        by_cases hb : b = a
        · exact hb
        · have ha : a ∈ b :: l := hp.symm.subset (List.mem_cons_self)
          have hb2 : b ∈ a :: t := hp.subset (List.mem_cons_self)
          have ha' : a ∈ l := by rcases List.mem_cons.1 ha with h | h
                                 · exact absurd h.symm hb
                                 · exact h
          have hb' : b ∈ t := by rcases List.mem_cons.1 hb2 with h | h
                                 · exact absurd h hb
                                 · exact h
          exact absurd ((List.pairwise_cons.1 ht).1 b hb') ((List.pairwise_cons.1 hl).1 a ha')
      subst e
      rw [sorted_one t l (List.Perm.cons_inv hp) (List.pairwise_cons.1 hl).2 (List.pairwise_cons.1 ht).2]
theorem sorted_of {d d' : Array Prp} {t : List Prp} (hp : PermIn 0 d.size d d') (hs : SortedIn (ltOf cfP) 0 d.size d') (ht : d.toList.Perm t) (htp : t.Pairwise (fun x y => nmP x < nmP y)) : d'.toList = t := by
  obtain ⟨h1, _, h3⟩ := hp
  have e1 : (d'.extract 0 d.size).toList = d'.toList := by
    rw [← h1]; simp
  have e2 : (d.extract 0 d.size).toList = d.toList := by simp
  rw [e1, e2] at h3
  refine sorted_one t d'.toList (h3.trans ht) ?_ htp
  rw [List.pairwise_iff_getElem]
  intro i j hi hj hij
  have := hs i j (Nat.zero_le _) hij (by rw [← h1]; simpa using hj)
  rw [lt_iffP] at this
  have hn := of_decide_eq_false this
  have g1 : d'[j]! = d'.toList[j] := by
    rw [getElem!_pos d' j (by simpa using hj)]; simp
  have g2 : d'[i]! = d'.toList[i] := by
    rw [getElem!_pos d' i (by simpa using hi)]; simp
  rwa [g1, g2] at hn
theorem encP_len (p : Prp) : (encP p).length = 5 := rfl
theorem cellsP_len : ∀ l : List Prp, (cellsP l).length = l.length * 5
  | [] => rfl
  | p :: l => by
    have := cellsP_len l
    unfold cellsP at *
    rw [List.flatMap_cons, List.length_append, this, encP_len, List.length_cons]
    omega
theorem cellsP_at : ∀ (l : List Prp) (i c : Nat) (hi : i < l.length) (hc : c < 5), (cellsP l)[i * 5 + c]? = (encP l[i])[c]?
  | [], i, _, hi, _ => by simp at hi
  | p :: l, 0, c, _, hc => by
    unfold cellsP
    rw [List.flatMap_cons, Nat.zero_mul, Nat.zero_add, List.getElem?_append_left (by rw [encP_len]; exact hc)]
    rfl
  | p :: l, i + 1, c, hi, hc => by
    have ih := cellsP_at l i c (by simpa using hi) hc
    unfold cellsP at *
    rw [List.flatMap_cons, List.getElem?_append_right (by rw [encP_len]; omega), encP_len, show (i + 1) * 5 + c - 5 = i * 5 + c by omega, ih]
    simp
theorem flat_cells (d : Array Prp) : (flatK encP 5 d).toList = cellsP d.toList := by
  apply List.ext_getElem?
  intro j
  by_cases hj : j < d.size * 5
  · have hi : j / 5 < d.toList.length := by simp; omega
    have e := cellsP_at d.toList (j / 5) (j % 5) hi (by omega)
    rw [show j / 5 * 5 + j % 5 = j by omega] at e
    rw [e]
    have h1 := get_flatK encP 5 d j hj
    have hsz : j < (flatK encP 5 d).size := by rw [size_flatK]; exact hj
    rw [getElem!_pos _ j hsz] at h1
    rw [Array.getElem?_toList, Array.getElem?_eq_getElem hsz, h1]
    rw [getElem!_pos d (j / 5) (by simpa using hi)]
    have h5 : j % 5 < (encP d[j / 5]).length := by rw [encP_len]; omega
    rw [getElem!_pos _ (j % 5) h5]
    simp
  · rw [List.getElem?_eq_none (by simp; omega), List.getElem?_eq_none (by rw [cellsP_len]; simp; omega)]
end Go.Proofs.YtijpbfafkdpolaaDoor
