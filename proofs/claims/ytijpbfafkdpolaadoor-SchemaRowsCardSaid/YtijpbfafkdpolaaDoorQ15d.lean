import Derived.Test.YtijpbfafkdpolaaDoorQ14d
import Derived.Test.YtijpbfafkdpolaaDoorQ17d
namespace Go.Proofs.YtijpbfafkdpolaaDoor
open Go.RowKit Go.Shelf

/-! ### the rows: what holds of each member, of each type -/
def okP (p : Prp) : Bool := decide (1 ≤ p.2.1 ∧ p.2.1 ≤ 18) && (!p.2.2.2.1 || decide (p.2.2.2.2.size = 0)) && (if 12 ≤ p.2.1 ∧ p.2.1 ≤ 15 then decide ((propsF p.2.2.1).length ≠ 0) else (decide (p.2.1 = 11 ∨ p.2.1 = 17) == decide (p.2.2.1.size ≠ 0))) && (decide (p.2.2.2.2.size = 0) || (decide (p.2.1 = 11) && decide (p.2.2.1.size < 4294967281) && inF p.2.2.1 p.2.2.2.2) || (decide (p.2.1 = 3) && decide (p.2.2.2.2 = ⟨#[102, 97, 108, 115, 101]⟩)))
def riseL : List Prp → Bool
  | [] => true
  | [_] => true
  | a :: b :: l => decide (nmP a < nmP b) && riseL (b :: l)
def okL (l : List Prp) : Bool := decide (l.length ≠ 0) && l.all okP && riseL l
set_option maxRecDepth 100000 in
theorem okL_all : ∀ k : Fin 20, okL (propsF (typesL.getD k.val ⟨#[]⟩)) = true := by decide +kernel
theorem rise_at : ∀ (l : List Prp) (i : Nat), riseL l = true → i + 1 < l.length → nmP (l.getD i noP) < nmP (l.getD (i + 1) noP)
  | [], _, _, h => by simp at h
  | [_], _, _, h => by simp at h
  | a :: b :: l, 0, h, _ => by
    simp only [riseL, Bool.and_eq_true, decide_eq_true_eq] at h
    exact h.1
  | a :: b :: l, i + 1, h, hi => by
    simp only [riseL, Bool.and_eq_true, decide_eq_true_eq] at h
    have := rise_at (b :: l) i h.2 (by simpa using hi)
    simpa using this
theorem okP_at {t : List Prp} (h : okL t = true) (i : Nat) (hi : i < t.length) : okP (t.getD i noP) = true := by
  simp only [okL, Bool.and_eq_true] at h
  have := List.all_eq_true.1 h.1.2 (t[i]) (List.getElem_mem hi)
  rwa [List.getD, List.getElem?_eq_getElem hi]
theorem okL_len {t : List Prp} (h : okL t = true) : 0 < t.length := by
  simp only [okL, Bool.and_eq_true, decide_eq_true_eq] at h
  omega
theorem okP_bd {pa pc pd : ByteArray} {pb : Int} {pq : Bool} (h : okP (pa, pb, pc, pq, pd) = true) : 1 ≤ pb ∧ pb ≤ 18 := by
  simp only [okP, Bool.and_eq_true, decide_eq_true_eq] at h
  exact h.1.1.1
theorem okP_must {pa pc pd : ByteArray} {pb : Int} {pq : Bool} (h : okP (pa, pb, pc, pq, pd) = true) : pq = false ∨ pd.size = 0 := by
  simp only [okP, Bool.and_eq_true, Bool.or_eq_true, decide_eq_true_eq, Bool.not_eq_true'] at h
  exact h.1.1.2
theorem okP_ref {pa pc pd : ByteArray} {pb : Int} {pq : Bool} (h : okP (pa, pb, pc, pq, pd) = true) (hb : 12 ≤ pb ∧ pb ≤ 15) : 0 < (propsF pc).length := by
  simp only [okP, Bool.and_eq_true] at h
  have := h.1.2
  rw [if_pos hb] at this
  have := of_decide_eq_true this
  omega
theorem okP_arg {pa pc pd : ByteArray} {pb : Int} {pq : Bool} (h : okP (pa, pb, pc, pq, pd) = true) (hb : ¬ (12 ≤ pb ∧ pb ≤ 15)) : ((pb = 11 ∨ pb = 17) ∧ 0 < pc.size) ∨ ((pb ≠ 11 ∧ pb ≠ 17) ∧ pc.size = 0) := by
  simp only [okP, Bool.and_eq_true] at h
  have := h.1.2
  rw [if_neg hb] at this
  by_cases h1 : pb = 11 ∨ pb = 17
  · rw [decide_eq_true h1] at this
    have := of_decide_eq_true (beq_iff_eq.1 this).symm
    exact .inl ⟨h1, by omega⟩
  · rw [decide_eq_false h1] at this
    have := of_decide_eq_false (beq_iff_eq.1 this).symm
    exact .inr ⟨by omega, by omega⟩
theorem okP_dflt {pa pc pd : ByteArray} {pb : Int} {pq : Bool} (h : okP (pa, pb, pc, pq, pd) = true) : pd.size = 0 ∨ (0 < pd.size ∧ pb = 11 ∧ pc.size < 4294967281 ∧ inF pc pd = true) ∨ (0 < pd.size ∧ pb = 3 ∧ pd = ⟨#[102, 97, 108, 115, 101]⟩) := by
  simp only [okP, Bool.and_eq_true, Bool.or_eq_true, decide_eq_true_eq] at h
  by_cases h0 : pd.size = 0
  · exact .inl h0
  · rcases h.2 with (h1 | h1) | h1
    · exact absurd h1 h0
    · exact .inr (.inl ⟨by omega, h1.1.1, h1.1.2, h1.2⟩)
    · exact .inr (.inr ⟨by omega, h1.1, h1.2⟩)
theorem types_cell (W : World) (k : Nat) (h : k < 20) : (W.alloc (.cells #[.string ⟨#[67, 97, 114, 100]⟩, .string ⟨#[65, 100, 100, 114, 101, 115, 115]⟩, .string ⟨#[65, 100, 100, 114, 101, 115, 115, 67, 111, 109, 112, 111, 110, 101, 110, 116]⟩, .string ⟨#[65, 110, 110, 105, 118, 101, 114, 115, 97, 114, 121]⟩, .string ⟨#[69, 109, 97, 105, 108, 65, 100, 100, 114, 101, 115, 115]⟩, .string ⟨#[76, 97, 110, 103, 117, 97, 103, 101, 80, 114, 101, 102]⟩, .string ⟨#[76, 105, 110, 107]⟩, .string ⟨#[77, 101, 100, 105, 97]⟩, .string ⟨#[78, 97, 109, 101]⟩, .string ⟨#[78, 97, 109, 101, 67, 111, 109, 112, 111, 110, 101, 110, 116]⟩, .string ⟨#[78, 105, 99, 107, 110, 97, 109, 101]⟩, .string ⟨#[78, 111, 116, 101]⟩, .string ⟨#[79, 110, 108, 105, 110, 101, 83, 101, 114, 118, 105, 99, 101]⟩, .string ⟨#[79, 114, 103, 85, 110, 105, 116]⟩, .string ⟨#[79, 114, 103, 97, 110, 105, 122, 97, 116, 105, 111, 110]⟩, .string ⟨#[80, 97, 114, 116, 105, 97, 108, 68, 97, 116, 101]⟩, .string ⟨#[80, 104, 111, 110, 101]⟩, .string ⟨#[82, 101, 108, 97, 116, 105, 111, 110]⟩, .string ⟨#[84, 105, 109, 101, 115, 116, 97, 109, 112]⟩, .string ⟨#[84, 105, 116, 108, 101]⟩] 9)).cell? ⟨W.heap.size, k, none⟩ = some (.string (typesL.getD k ⟨#[]⟩)) := by
  simp only [World.cell?_alloc_new]
  have hall : ∀ j : Fin 20, (#[.string ⟨#[67, 97, 114, 100]⟩, .string ⟨#[65, 100, 100, 114, 101, 115, 115]⟩, .string ⟨#[65, 100, 100, 114, 101, 115, 115, 67, 111, 109, 112, 111, 110, 101, 110, 116]⟩, .string ⟨#[65, 110, 110, 105, 118, 101, 114, 115, 97, 114, 121]⟩, .string ⟨#[69, 109, 97, 105, 108, 65, 100, 100, 114, 101, 115, 115]⟩, .string ⟨#[76, 97, 110, 103, 117, 97, 103, 101, 80, 114, 101, 102]⟩, .string ⟨#[76, 105, 110, 107]⟩, .string ⟨#[77, 101, 100, 105, 97]⟩, .string ⟨#[78, 97, 109, 101]⟩, .string ⟨#[78, 97, 109, 101, 67, 111, 109, 112, 111, 110, 101, 110, 116]⟩, .string ⟨#[78, 105, 99, 107, 110, 97, 109, 101]⟩, .string ⟨#[78, 111, 116, 101]⟩, .string ⟨#[79, 110, 108, 105, 110, 101, 83, 101, 114, 118, 105, 99, 101]⟩, .string ⟨#[79, 114, 103, 85, 110, 105, 116]⟩, .string ⟨#[79, 114, 103, 97, 110, 105, 122, 97, 116, 105, 111, 110]⟩, .string ⟨#[80, 97, 114, 116, 105, 97, 108, 68, 97, 116, 101]⟩, .string ⟨#[80, 104, 111, 110, 101]⟩, .string ⟨#[82, 101, 108, 97, 116, 105, 111, 110]⟩, .string ⟨#[84, 105, 109, 101, 115, 116, 97, 109, 112]⟩, .string ⟨#[84, 105, 116, 108, 101]⟩] : Array Value)[j.val]? = some (.string (typesL.getD j.val ⟨#[]⟩)) := by
    intro j
    match j with
    | ⟨0, _⟩ | ⟨1, _⟩ | ⟨2, _⟩ | ⟨3, _⟩ | ⟨4, _⟩ | ⟨5, _⟩ | ⟨6, _⟩ | ⟨7, _⟩ | ⟨8, _⟩ | ⟨9, _⟩ | ⟨10, _⟩ | ⟨11, _⟩ | ⟨12, _⟩ | ⟨13, _⟩ | ⟨14, _⟩ | ⟨15, _⟩ | ⟨16, _⟩ | ⟨17, _⟩ | ⟨18, _⟩ | ⟨19, _⟩ => rfl
    | ⟨m + 20, hm⟩ => exact absurd hm (by omega)
  exact hall ⟨k, h⟩


end Go.Proofs.YtijpbfafkdpolaaDoor
