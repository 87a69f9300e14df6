import Derived.Test.YtebfnglhbfkkdaaDoorW10
namespace Go.Proofs.YtebfnglhbfkkdaaDoor
open Go.RowKit Go.Shelf

/-! ### parts put together anew -/
theorem name_no (u : ByteArray) (h : nameF u = true) : (47 : UInt8) ∉ u.data.toList := by
  intro hm
  have h1 := allF_not nameCh u.data.toList 47 hm (by decide)
  rw [strOf_data] at h1
  unfold nameF at h
  rw [h1] at h
  simp at h
theorem media_parts (a : ByteArray) (h : mediaF a = true) : ∃ u v, splitF a 47 = [u, v] ∧ nameF u = true ∧ nameF v = true := by
  unfold mediaF at h
  match hs : splitF a 47 with
  | [] => rw [hs] at h; cases h
  | [x] => rw [hs] at h; cases h
  | [x, y] =>
    rw [hs] at h
    simp only [mediaL, Bool.and_eq_true] at h
    exact ⟨x, y, rfl, h.1, h.2⟩
  | x :: y :: z :: r => rw [hs] at h; cases h
theorem media_join (u v : ByteArray) (hu : nameF u = true) (hv : nameF v = true) : mediaF (u ++ ⟨#[47]⟩ ++ v) = true := by
  unfold mediaF
  rw [splitF_app, splitF_miss u 47 (name_no u hu), splitF_miss v 47 (name_no v hv)]
  simp [mediaL, hu, hv]
theorem split_ne (s : ByteArray) (c : UInt8) : splitF s c ≠ [] := by unfold splitF; simp [splitL_ne]
theorem langF_app (xs ys : List ByteArray) (h : xs ≠ []) : langF (xs ++ ys) = (langF xs && ys.all (tagF botF)) := by
  cases xs with
  | nil => exact absurd rfl h
  | cons t r => simp only [List.cons_append, langF, List.all_append, Bool.and_assoc]
def tagsF (c : ByteArray) : Bool := (splitF c 45).all (tagF botF)
theorem lang_join (b c : ByteArray) (h : langS b = true) : langS (b ++ ⟨#[45]⟩ ++ c) = tagsF c := by
  unfold langS at *
  rw [splitF_app, langF_app _ _ (split_ne b 45), h, Bool.true_and]
  rfl
theorem lang_de : langS ⟨#[100, 101]⟩ = true := by decide +kernel
theorem lang_join_de (c : ByteArray) : langS ((⟨#[100, 101, 45]⟩ : ByteArray) ++ c) = tagsF c := by
  have h := lang_join ⟨#[100, 101]⟩ c lang_de
  have e : (⟨#[100, 101]⟩ : ByteArray) ++ ⟨#[45]⟩ = ⟨#[100, 101, 45]⟩ := by decide
  rw [e] at h
  exact h
theorem lang_tags (c : ByteArray) (h : langS c = true) : tagsF c = true := by
  unfold langS at h
  unfold tagsF
  cases hs : splitF c 45 with
  | nil => rfl
  | cons t r =>
    rw [hs] at h
    simp only [langF, Bool.and_eq_true] at h
    rw [List.all_cons, tag_let_bot t h.1.2, h.2]
    rfl
end Go.Proofs.YtebfnglhbfkkdaaDoor
