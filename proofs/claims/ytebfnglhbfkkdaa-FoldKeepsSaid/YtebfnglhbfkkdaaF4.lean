import Derived.Test.YtebfnglhbfkkdaaF1
namespace Go.Proofs.Ytebfnglhbfkkdaa
open Go.RowKit

/-- a question's terms, of its bytes -/
def termsL : Nat → List UInt8 → List (List UInt8)
  | 0, _ => []
  | _ + 1, [] => []
  | f + 1, c :: r =>
    if c = 32 then termsL f r
    else if c = 34 then (if r.takeWhile (fun x => x != 34) = [] then [] else [r.takeWhile (fun x => x != 34)]) ++ termsL f ((r.dropWhile (fun x => x != 34)).drop 1)
    else (c :: r).takeWhile (fun x => x != 32 && x != 34) :: termsL f ((c :: r).dropWhile (fun x => x != 32 && x != 34))

theorem dropW_le {α : Type} (p : α → Bool) (l : List α) : (l.dropWhile p).length ≤ l.length := by
  induction l with
  | nil => simp
  | cons a l ih =>
    rw [List.dropWhile_cons]
    split
    · simp only [List.length_cons]; omega
    · exact Nat.le_refl _

theorem termsL_fuel : ∀ (f g : Nat) (l : List UInt8), l.length ≤ f → l.length ≤ g → termsL f l = termsL g l
  | 0, g, l, hf, _ => by
    have hl : l = [] := List.eq_nil_of_length_eq_zero (by omega)
    subst hl
    cases g <;> simp [termsL]
  | f + 1, 0, l, _, hg => by
    have hl : l = [] := List.eq_nil_of_length_eq_zero (by omega)
    subst hl
    simp [termsL]
  | f + 1, g + 1, [], _, _ => by simp [termsL]
  | f + 1, g + 1, c :: r, hf, hg => by
    simp only [List.length_cons] at hf hg
    unfold termsL
    by_cases h1 : c = 32
    · rw [if_pos h1, if_pos h1]
      exact termsL_fuel f g r (by omega) (by omega)
    · rw [if_neg h1, if_neg h1]
      by_cases h2 : c = 34
      · rw [if_pos h2, if_pos h2]
        have hd := dropW_le (fun x : UInt8 => x != 34) r
        rw [termsL_fuel f g _ (by rw [List.length_drop]; omega) (by rw [List.length_drop]; omega)]
      · rw [if_neg h2, if_neg h2]
        have hp : (c != 32 && c != 34) = true := by simp [h1, h2]
        have hd := dropW_le (fun x : UInt8 => x != 32 && x != 34) r
        rw [List.dropWhile_cons, if_pos hp, termsL_fuel f g _ (by omega) (by omega)]

def strOf (l : List UInt8) : ByteArray := ⟨l.toArray⟩
/-- the terms from a place on -/
def termsT (q : ByteArray) (k : Nat) : List ByteArray := (termsL (q.data.toList.drop k).length (q.data.toList.drop k)).map strOf
def termsF (q : ByteArray) : List ByteArray := termsT q 0

theorem termsT_end (q : ByteArray) (k : Nat) (h : q.size ≤ k) : termsT q k = [] := by
  have hl : q.data.toList.length = q.size := by simp
  have : q.data.toList.drop k = [] := List.drop_eq_nil_of_le (by omega)
  unfold termsT
  rw [this]
  rfl

theorem drop_at (q : ByteArray) (k : Nat) (h : k < q.size) : q.data.toList.drop k = q[k]'h :: q.data.toList.drop (k + 1) := by
  have hl : k < q.data.toList.length := by simpa using h
  rw [List.drop_eq_getElem_cons hl]
  rfl

theorem termsT_space (q : ByteArray) (k : Nat) (h : k < q.size) (h1 : q[k]'h = 32) : termsT q k = termsT q (k + 1) := by
  unfold termsT
  rw [drop_at q k h, List.length_cons]
  conv => lhs; unfold termsL
  rw [if_pos h1]

theorem takeW_upto {p : UInt8 → Bool} : ∀ (l : List UInt8) (m : Nat), m ≤ l.length → (∀ j (h : j < l.length), j < m → p (l[j]'h) = true) → (∀ (h : m < l.length), p (l[m]'h) = false) → l.takeWhile p = l.take m ∧ l.dropWhile p = l.drop m
  | [], m, hm, _, _ => by simp
  | a :: l, 0, _, _, h2 => by
    have := h2 (by simp)
    simp only [List.getElem_cons_zero] at this
    simp [List.takeWhile_cons, List.dropWhile_cons, this]
  | a :: l, m + 1, hm, h1, h2 => by
    have ha := h1 0 (by simp) (by omega)
    simp only [List.getElem_cons_zero] at ha
    have ih := takeW_upto l m (by simpa using hm) (fun j hj hjm => h1 (j + 1) (by simpa using hj) (by omega)) (fun hj => h2 (by simpa using hj))
    simp [List.takeWhile_cons, List.dropWhile_cons, ha, ih.1, ih.2]

theorem strOf_ext (q : ByteArray) (a e : Nat) : strOf ((q.data.toList.drop a).take (e - a)) = q.extract a e := by
  apply bytes_ext
  rw [ByteArray.data_extract, Array.toList_extract, List.extract_eq_take_drop]
  unfold strOf
  simp

theorem termsT_quote (q : ByteArray) (k e : Nat) (h : k < q.size) (h1 : q[k]'h = 34) (he : k + 1 ≤ e) (hen : e ≤ q.size)
    (hb : ∀ j (hj : j < q.size), k + 1 ≤ j → j < e → q[j]'hj ≠ 34) (hs : ∀ hj : e < q.size, q[e]'hj = 34) :
    termsT q k = (if k + 1 < e then [q.extract (k + 1) e] else []) ++ termsT q (e + 1) := by
  have hl : q.data.toList.length = q.size := by simp
  have hdl : (q.data.toList.drop (k + 1)).length = q.size - (k + 1) := by rw [List.length_drop, hl]
  obtain ⟨ht, hd⟩ := takeW_upto (p := fun x => x != 34) (q.data.toList.drop (k + 1)) (e - (k + 1)) (by rw [hdl]; omega)
    (fun j hj hjm => by
      rw [hdl] at hj
      have := hb (k + 1 + j) (by omega) (by omega) (by omega)
      rw [List.getElem_drop]
      exact bne_iff_ne.2 this)
    (fun hj => by
      rw [hdl] at hj
      have := hs (by omega)
      rw [List.getElem_drop]
      have e2 : q.data.toList[k + 1 + (e - (k + 1))]'(by omega) = q[e]'(by omega) := by
        have : k + 1 + (e - (k + 1)) = e := by omega
        simp only [this]
        rfl
      rw [e2, this]
      rfl)
  unfold termsT
  rw [drop_at q k h, List.length_cons]
  conv => lhs; unfold termsL
  rw [if_neg (by rw [h1]; decide), if_pos h1, ht, hd, List.drop_drop, List.drop_drop, show k + 1 + (e - (k + 1) + 1) = e + 1 from by omega, List.map_append,
    termsL_fuel _ (q.data.toList.drop (e + 1)).length _ (by rw [List.length_drop, List.length_drop]; omega) (Nat.le_refl _)]
  congr 1
  by_cases hke : k + 1 < e
  · rw [if_pos hke, if_neg (by
      intro hc
      have := congrArg List.length hc
      rw [List.length_take, hdl] at this
      simp only [List.length_nil] at this
      omega), List.map_singleton, strOf_ext]
  · rw [if_neg hke, if_pos (by rw [show e - (k + 1) = 0 from by omega]; rfl)]
    rfl

theorem termsT_word (q : ByteArray) (k e : Nat) (h : k < q.size) (h1 : q[k]'h ≠ 32) (h2 : q[k]'h ≠ 34) (he : k ≤ e) (hen : e ≤ q.size)
    (hb : ∀ j (hj : j < q.size), k ≤ j → j < e → q[j]'hj ≠ 32 ∧ q[j]'hj ≠ 34) (hs : ∀ hj : e < q.size, q[e]'hj = 32 ∨ q[e]'hj = 34) :
    termsT q k = q.extract k e :: termsT q e := by
  have hl : q.data.toList.length = q.size := by simp
  have hdl : (q.data.toList.drop k).length = q.size - k := by rw [List.length_drop, hl]
  have hke : k < e := by
    rcases Nat.lt_or_ge k e with h' | h'
    · exact h'
    · have : k = e := by omega
      subst this
      rcases hs h with h3 | h3
      · exact absurd h3 h1
      · exact absurd h3 h2
  obtain ⟨ht, hd⟩ := takeW_upto (p := fun x => x != 32 && x != 34) (q.data.toList.drop k) (e - k) (by rw [hdl]; omega)
    (fun j hj hjm => by
      rw [hdl] at hj
      have := hb (k + j) (by omega) (by omega) (by omega)
      rw [List.getElem_drop]
      exact Bool.and_eq_true_iff.2 ⟨bne_iff_ne.2 this.1, bne_iff_ne.2 this.2⟩)
    (fun hj => by
      rw [hdl] at hj
      have := hs (by omega)
      rw [List.getElem_drop]
      have e2 : q.data.toList[k + (e - k)]'(by omega) = q[e]'(by omega) := by
        have : k + (e - k) = e := by omega
        simp only [this]
        rfl
      rw [e2]
      rcases this with h3 | h3 <;> rw [h3] <;> rfl)
  unfold termsT
  rw [drop_at q k h, ← drop_at q k h] at *
  have hlen : (q.data.toList.drop k).length = (q.data.toList.drop (k + 1)).length + 1 := by rw [drop_at q k h, List.length_cons]
  rw [hlen]
  conv => lhs; rw [drop_at q k h]; unfold termsL
  rw [if_neg h1, if_neg h2, ← drop_at q k h, ht, hd, List.drop_drop, show k + (e - k) = e from by omega, List.map_cons, strOf_ext,
    termsL_fuel _ (q.data.toList.drop e).length _ (by rw [List.length_drop, List.length_drop]; omega) (Nat.le_refl _)]
end Go.Proofs.Ytebfnglhbfkkdaa
