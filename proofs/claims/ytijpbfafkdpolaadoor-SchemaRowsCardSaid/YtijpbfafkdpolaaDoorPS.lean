import Derived.Test.YtijpbfafkdpolaaDoorMem
import Derived.Lib.SplitLaws
import Derived.Laws.BytesArg
namespace Go.Proofs.YtijpbfafkdpolaaDoor
open Go.RowKit

/-! ### a text's parts -/
def splitL (c : UInt8) : List UInt8 → List (List UInt8)
  | [] => [[]]
  | b :: r => if b = c then [] :: splitL c r else match splitL c r with
    | h :: t => (b :: h) :: t
    | [] => [[b]]
theorem splitL_ne (c : UInt8) : ∀ l : List UInt8, splitL c l ≠ []
  | [] => by simp [splitL]
  | b :: r => by
    unfold splitL
    by_cases h : b = c
    · rw [if_pos h]; simp
    · rw [if_neg h]
      cases splitL c r <;> simp
theorem splitL_none (c : UInt8) : ∀ l : List UInt8, c ∉ l → splitL c l = [l]
  | [], _ => rfl
  | b :: r, h => by
    have hb : b ≠ c := fun e => h (by rw [e]; exact List.mem_cons_self ..)
    have hr := splitL_none c r (fun hm => h (List.mem_cons_of_mem _ hm))
    unfold splitL
    rw [if_neg hb, hr]
theorem splitL_app (c : UInt8) (r : List UInt8) : ∀ l : List UInt8, splitL c (l ++ c :: r) = splitL c l ++ splitL c r
  | [] => by
    rw [List.nil_append]
    conv => lhs; unfold splitL
    rw [if_pos rfl]
    rfl
  | b :: l => by
    have ih := splitL_app c r l
    rw [List.cons_append]
    conv => lhs; unfold splitL
    conv => rhs; lhs; unfold splitL
    by_cases h : b = c
    · rw [if_pos h, if_pos h, ih]; rfl
    · rw [if_neg h, if_neg h, ih]
      cases hs : splitL c l with
      | nil => exact absurd hs (splitL_ne c l)
      | cons x t => rfl
theorem splitL_hit (c : UInt8) (l r : List UInt8) (h : c ∉ l) : splitL c (l ++ c :: r) = l :: splitL c r := by
  rw [splitL_app, splitL_none c l h]; rfl
theorem splitL_mem (c : UInt8) : ∀ (l : List UInt8), ∀ p ∈ splitL c l, c ∉ p
  | [], p, hp => by
    simp only [splitL, List.mem_singleton] at hp
    rw [hp]; simp
  | b :: r, p, hp => by
    have ih := splitL_mem c r
    unfold splitL at hp
    by_cases h : b = c
    · rw [if_pos h, List.mem_cons] at hp
      rcases hp with rfl | hp
      · simp
      · exact ih p hp
    · rw [if_neg h] at hp
      cases hs : splitL c r with
      | nil => exact absurd hs (splitL_ne c r)
      | cons x t =>
        rw [hs] at hp ih
        simp only [List.mem_cons] at hp
        rcases hp with rfl | hp
        · intro hm
          rcases List.mem_cons.1 hm with rfl | hm
          · exact h rfl
          · exact ih x (List.mem_cons_self ..) hm
        · exact ih p (List.mem_cons_of_mem _ hp)
theorem indexByte_app (c : UInt8) (v : List UInt8) : ∀ u : List UInt8, c ∉ u → Lib.indexByte (u ++ c :: v) c = u.length
  | [], _ => by simp [Lib.indexByte]
  | b :: u, h => by
    have hb : b ≠ c := fun e => h (by rw [e]; exact List.mem_cons_self ..)
    have ih := indexByte_app c v u (fun hm => h (List.mem_cons_of_mem _ hm))
    rw [List.cons_append]
    unfold Lib.indexByte
    rw [ih]
    have h1 : (b == c) = false := beq_eq_false_iff_ne.2 hb
    have h2 : ((u.length : Int) == -1) = false := beq_eq_false_iff_ne.2 (by omega)
    simp [h1, h2]
theorem indexByte_not (c : UInt8) : ∀ u : List UInt8, c ∉ u → Lib.indexByte u c = -1
  | [], _ => rfl
  | b :: u, h => by
    have hb : b ≠ c := fun e => h (by rw [e]; exact List.mem_cons_self ..)
    have ih := indexByte_not c u (fun hm => h (List.mem_cons_of_mem _ hm))
    unfold Lib.indexByte
    rw [ih]
    have h1 : (b == c) = false := beq_eq_false_iff_ne.2 hb
    simp [h1]
theorem splitK_eq (c : UInt8) : ∀ (n : Nat) (l : List UInt8), l.count c = n → Lib.splitK [c] 0 n l = splitL c l
  | 0, l, h => by
    rw [splitL_none c l (List.count_eq_zero.1 h)]; rfl
  | n + 1, l, h => by
    have hm : c ∈ l := List.count_pos_iff.1 (by omega)
    obtain ⟨u, v, rfl, hu⟩ := List.eq_append_cons_of_mem hm
    rw [List.count_append, List.count_cons_self, List.count_eq_zero.2 hu] at h
    have hi := indexByte_app c v u hu
    rw [← Lib.index_one] at hi
    unfold Lib.splitK
    rw [hi, splitL_hit c u v hu]
    have h2 : ((u.length : Int) == -1) = false := beq_eq_false_iff_ne.2 (by omega)
    rw [h2, if_neg (by decide)]
    have e1 : (u ++ c :: v).take ((u.length : Int).toNat + 0) = u := by
      rw [Int.toNat_natCast, Nat.add_zero, List.take_left]
    have e2 : (u ++ c :: v).drop ((u.length : Int).toNat + [c].length) = v := by
      rw [Int.toNat_natCast, List.length_singleton, ← List.drop_drop, List.drop_left]; rfl
    rw [e1, e2, splitK_eq c n v (by omega)]

def strOf (l : List UInt8) : ByteArray := ⟨l.toArray⟩
theorem strOf_data (s : ByteArray) : strOf s.data.toList = s := by cases s; simp [strOf]
def splitF (s : ByteArray) (c : UInt8) : List ByteArray := (splitL c s.data.toList).map strOf
theorem split_eq (s : ByteArray) (c : UInt8) : Lib.splitB ⟨#[c]⟩ 0 (Lib.countB s ⟨#[c]⟩) s = splitF s c := by
  have h := Lib.splitB_data ⟨#[c]⟩ 0 (Lib.countB s ⟨#[c]⟩) s
  have hc : Lib.countB s ⟨#[c]⟩ = s.data.toList.count c := Lib.count_one c s.data.toList
  rw [hc] at h ⊢
  rw [show (⟨#[c]⟩ : ByteArray).data.toList = [c] from rfl, splitK_eq c _ _ rfl] at h
  unfold splitF
  rw [← h, List.map_map]
  conv => lhs; rw [← List.map_id (Lib.splitB ⟨#[c]⟩ 0 (s.data.toList.count c) s)]
  apply List.map_congr_left
  intro x _
  exact (strOf_data x).symm
theorem splitF_len (s : ByteArray) (c : UInt8) : (splitF s c).length = Lib.countB s ⟨#[c]⟩ + 1 := by
  rw [← split_eq]
  exact Lib.splitB_all ⟨#[c]⟩ (Nat.le_refl 1) 0 _ s rfl

/-- the parts from a place on -/
def splitT (s : ByteArray) (c : UInt8) (k : Nat) : List ByteArray := (splitL c (s.data.toList.drop k)).map strOf
/-- none of a stretch is that byte -/
def NoC (s : ByteArray) (c : UInt8) (a e : Nat) : Prop := ∀ j (hj : j < s.size), a ≤ j → j < e → s[j]'hj ≠ c
theorem NoC.nil (s : ByteArray) (c : UInt8) (a : Nat) : NoC s c a a := fun j _ h1 h2 => by omega
theorem NoC.succ {s : ByteArray} {c : UInt8} {a e : Nat} (h : NoC s c a e) (he : e < s.size) (hx : ((s[e]'he).toNat : Int) ≠ (c.toNat : Int)) : NoC s c a (e + 1) := fun j hj h1 h2 => by
  by_cases hje : j = e
  · subst hje
    intro hc
    exact hx (by rw [hc])
  · exact h j hj h1 (by omega)
theorem strOf_ext (s : ByteArray) (a e : Nat) : strOf ((s.data.toList.drop a).take (e - a)) = s.extract a e := by
  apply bytes_extM
  rw [ByteArray.data_extract, Array.toList_extract, List.extract_eq_take_drop]
  unfold strOf
  simp
theorem noC_list {s : ByteArray} {c : UInt8} {a e : Nat} (h : NoC s c a e) : c ∉ (s.data.toList.drop a).take (e - a) := by
  intro hm
  obtain ⟨j, hj, hx⟩ := List.getElem_of_mem hm
  rw [List.length_take, List.length_drop] at hj
  have hl : s.data.toList.length = s.size := by simp
  rw [List.getElem_take, List.getElem_drop] at hx
  exact h (a + j) (by omega) (by omega) (by omega) hx
theorem splitT_hit (s : ByteArray) (c : UInt8) (k e : Nat) (hk : k ≤ e) (he : e < s.size) (hn : NoC s c k e) (hc : ((s[e]'he).toNat : Int) = (c.toNat : Int)) : splitT s c k = s.extract k e :: splitT s c (e + 1) := by
  have hl : s.data.toList.length = s.size := by simp
  have hce : s.data.toList[e]'(by omega) = c := UInt8.toNat_inj.1 (by have : (s.data.toList[e]'(by omega)) = s[e]'he := rfl; rw [this]; omega)
  have h1 : s.data.toList.drop k = (s.data.toList.drop k).take (e - k) ++ c :: s.data.toList.drop (e + 1) := by
    conv => lhs; rw [← List.take_append_drop (e - k) (s.data.toList.drop k)]
    rw [List.drop_drop, show k + (e - k) = e by omega, List.drop_eq_getElem_cons (by omega : e < s.data.toList.length), hce]
  unfold splitT
  rw [h1, splitL_hit c _ _ (noC_list hn), List.map_cons, strOf_ext]
theorem splitT_end (s : ByteArray) (c : UInt8) (k : Nat) (hn : NoC s c k s.size) : splitT s c k = [s.extract k s.size] := by
  have hl : s.data.toList.length = s.size := by simp
  have h1 : s.data.toList.drop k = (s.data.toList.drop k).take (s.size - k) := by
    rw [List.take_of_length_le]
    rw [List.length_drop]; omega
  unfold splitT
  rw [h1, splitL_none c _ (noC_list hn), List.map_singleton, strOf_ext]
theorem splitF_T (s : ByteArray) (c : UInt8) : splitF s c = splitT s c 0 := by unfold splitF splitT; rw [List.drop_zero]
theorem splitF_app (s t : ByteArray) (c : UInt8) : splitF (s ++ ⟨#[c]⟩ ++ t) c = splitF s c ++ splitF t c := by
  unfold splitF
  rw [ByteArray.data_append, ByteArray.data_append, Array.toList_append, Array.toList_append, List.append_assoc]
  show (splitL c (s.data.toList ++ c :: t.data.toList)).map strOf = _
  rw [splitL_app, List.map_append]
theorem splitF_size (s : ByteArray) (c : UInt8) : ∀ p ∈ splitF s c, p.size ≤ s.size := by
  have key : ∀ (l : List UInt8), ∀ p ∈ splitL c l, p.length ≤ l.length := by
    intro l
    induction l with
    | nil => intro p hp; simp only [splitL, List.mem_singleton] at hp; rw [hp]; exact Nat.le_refl _
    | cons b r ih =>
      intro p hp
      unfold splitL at hp
      by_cases h : b = c
      · rw [if_pos h, List.mem_cons] at hp
        rcases hp with rfl | hp
        · simp
        · have := ih p hp; simp only [List.length_cons]; omega
      · rw [if_neg h] at hp
        cases hs : splitL c r with
        | nil => exact absurd hs (splitL_ne c r)
        | cons x t =>
          rw [hs] at hp ih
          simp only [List.mem_cons] at hp
          rcases hp with rfl | hp
          · have := ih x (List.mem_cons_self ..); simp only [List.length_cons]; omega
          · have := ih p (List.mem_cons_of_mem _ hp); simp only [List.length_cons]; omega
  intro p hp
  obtain ⟨l, hl, rfl⟩ := List.mem_map.1 hp
  have := key _ l hl
  have e : (strOf l).size = l.length := by simp [strOf, ByteArray.size]
  have e2 : s.data.toList.length = s.size := by simp
  omega
end Go.Proofs.YtijpbfafkdpolaaDoor
