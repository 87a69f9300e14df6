import Derived.Test.YtebfnglhbfkkdaaF9
import Derived.Test.YtebfnglhbfkkdaaF10
namespace Go.Proofs.Ytebfnglhbfkkdaa
open Go.RowKit

/-! ### folding, by bytes -/
theorem smF_bd {c : Int} (h : 0 ≤ c ∧ c ≤ 255) : 0 ≤ smF c ∧ smF c ≤ 255 := by
  unfold smF
  by_cases h1 : 65 ≤ c ∧ c ≤ 90
  · rw [if_pos h1]; omega
  · rw [if_neg h1]; omega
theorem smF_idem (c : Int) : smF (smF c) = smF c := by
  unfold smF
  by_cases h1 : 65 ≤ c ∧ c ≤ 90
  · rw [if_pos h1, if_neg (by omega)]
  · rw [if_neg h1, if_neg h1]
theorem smF_32 (c : Int) : smF c = 32 ↔ c = 32 := by
  unfold smF
  by_cases h1 : 65 ≤ c ∧ c ≤ 90
  · rw [if_pos h1]; omega
  · rw [if_neg h1]
theorem smF_34 (c : Int) : smF c = 34 ↔ c = 34 := by
  unfold smF
  by_cases h1 : 65 ≤ c ∧ c ≤ 90
  · rw [if_pos h1]; omega
  · rw [if_neg h1]
def smB (b : UInt8) : UInt8 := UInt8.ofNat (smF b.toNat).toNat
theorem smB_toNat (b : UInt8) : ((smB b).toNat : Int) = smF b.toNat := by
  have h1 := b.toNat_lt
  have h := smF_bd (c := b.toNat) (by omega)
  unfold smB
  rw [UInt8.toNat_ofNat']
  omega
theorem smB_idem (b : UInt8) : smB (smB b) = smB b := by
  apply UInt8.toNat_inj.1
  have h1 := smB_toNat (smB b)
  have h2 := smB_toNat b
  rw [h2, smF_idem] at h1
  omega
theorem smB_32 (b : UInt8) : smB b = 32 ↔ b = 32 := by
  have h2 := smB_toNat b
  have h3 := smF_32 b.toNat
  constructor
  · intro h
    rw [h] at h2
    have := h3.1 h2.symm
    exact u8_eq (k := 32) this
  · rintro rfl
    exact u8_eq (k := 32) (h2.trans (h3.2 rfl))
theorem smB_34 (b : UInt8) : smB b = 34 ↔ b = 34 := by
  have h2 := smB_toNat b
  have h3 := smF_34 b.toNat
  constructor
  · intro h
    rw [h] at h2
    have := h3.1 h2.symm
    exact u8_eq (k := 34) this
  · rintro rfl
    exact u8_eq (k := 34) (h2.trans (h3.2 rfl))
theorem foldS_bytes (s : ByteArray) : (foldS s).data.toList = s.data.toList.map smB := by
  unfold foldS nums
  rw [strOfNums_data, List.map_map, List.map_map]
  rfl
theorem foldS_idem (s : ByteArray) : foldS (foldS s) = foldS s := by
  apply bytes_ext
  rw [foldS_bytes, foldS_bytes, List.map_map]
  apply List.map_congr_left
  intro b _
  exact smB_idem b
theorem foldS_app (a b : ByteArray) : (foldS (a ++ b)).data.toList = (foldS a).data.toList ++ (foldS b).data.toList := by
  rw [foldS_bytes, foldS_bytes, foldS_bytes, ByteArray.data_append, Array.toList_append, List.map_append]

/-! ### terms, folded -/
theorem p34_fold : ((fun x : UInt8 => x != 34) ∘ smB) = fun x => x != 34 := by
  funext x
  show (smB x != 34) = (x != 34)
  by_cases h : x = 34
  · subst h
    rw [(smB_34 34).2 rfl]
  · rw [bne_iff_ne.2 h, bne_iff_ne.2 (fun e => h ((smB_34 x).1 e))]
theorem p3234_fold : ((fun x : UInt8 => x != 32 && x != 34) ∘ smB) = fun x => x != 32 && x != 34 := by
  funext x
  have e1 : (smB x != 32) = (x != 32) := by
    by_cases h : x = 32
    · subst h
      rw [(smB_32 32).2 rfl]
    · rw [bne_iff_ne.2 h, bne_iff_ne.2 (fun e => h ((smB_32 x).1 e))]
  have e2 : (smB x != 34) = (x != 34) := congrFun p34_fold x
  show (smB x != 32 && smB x != 34) = (x != 32 && x != 34)
  rw [e1, e2]
theorem termsL_map : ∀ (f : Nat) (l : List UInt8), termsL f (l.map smB) = (termsL f l).map (List.map smB)
  | 0, l => by simp [termsL]
  | f + 1, [] => by simp [termsL]
  | f + 1, c :: r => by
    have ih := termsL_map f
    rw [List.map_cons]
    conv => lhs; unfold termsL
    conv => rhs; unfold termsL
    by_cases h1 : c = 32
    · rw [if_pos ((smB_32 c).2 h1), if_pos h1]
      exact ih r
    · rw [if_neg (fun h => h1 ((smB_32 c).1 h)), if_neg h1]
      by_cases h2 : c = 34
      · rw [if_pos ((smB_34 c).2 h2), if_pos h2, List.map_append, List.takeWhile_map, List.dropWhile_map, p34_fold, ← List.map_drop, ih]
        congr 1
        by_cases h3 : r.takeWhile (fun x => x != 34) = []
        · rw [h3]; simp
        · rw [if_neg h3, if_neg (fun h => h3 (List.map_eq_nil_iff.1 h))]; rfl
      · rw [if_neg (fun h => h2 ((smB_34 c).1 h)), if_neg h2, ← List.map_cons, List.takeWhile_map, List.dropWhile_map, p3234_fold, List.map_cons, ih]
theorem strOf_map (l : List UInt8) : strOf (l.map smB) = foldS (strOf l) := by
  apply bytes_ext
  rw [foldS_bytes]
  simp [strOf]
theorem termsF_fold (q : ByteArray) : termsF (foldS q) = (termsF q).map foldS := by
  unfold termsF termsT
  rw [List.drop_zero, List.drop_zero, foldS_bytes, List.length_map, termsL_map, List.map_map, List.map_map]
  apply List.map_congr_left
  intro l _
  exact strOf_map l

/-! ### where a text has another -/
theorem contains_infix (s t : List UInt8) : Lib.contains s t = true ↔ t <:+: s := by
  unfold Lib.contains
  rw [decide_eq_true_iff]
  constructor
  · intro h
    rcases Lib.index_spec s t with ⟨h1, _⟩ | ⟨i, h1, h2, h3, _⟩
    · omega
    · unfold Lib.occAt at h3
      exact (List.isPrefixOf_iff_prefix.1 h3).isInfix.trans (List.drop_suffix i s).isInfix
  · rintro ⟨u, v, rfl⟩
    rcases Lib.index_spec (u ++ t ++ v) t with ⟨h1, h2⟩ | ⟨i, h1, _⟩
    · have h3 := h2 u.length (by simp only [List.length_append]; omega)
      unfold Lib.occAt at h3
      rw [List.append_assoc, List.drop_left] at h3
      rw [List.isPrefixOf_iff_prefix.2 (List.prefix_append t v)] at h3
      cases h3
    · omega
theorem hasF_fold (a t : ByteArray) : hasF (foldS a) (foldS t) = hasF a t := by
  unfold hasF
  rw [foldS_idem, foldS_idem]
theorem hasF_mid (a b t : ByteArray) (h : hasF a t = true) : hasF (b ++ a ++ b) t = true := by
  unfold hasF at h ⊢
  rw [contains_infix] at h ⊢
  rw [foldS_app, foldS_app]
  exact h.trans ⟨_, _, rfl⟩
theorem matchF_fold (q a : ByteArray) : matchF (foldS q) [foldS a] = matchF q [a] := by
  unfold matchF
  rw [termsF_fold, List.all_map]
  congr 1
  funext t
  simp only [Function.comp_apply, List.any_cons, List.any_nil, hasF_fold]
theorem matchF_mid (q a b : ByteArray) (h : matchF q [a] = true) : matchF q [b ++ a ++ b] = true := by
  unfold matchF at h ⊢
  rw [List.all_eq_true] at h ⊢
  intro t ht
  have := h t ht
  simp only [List.any_cons, List.any_nil, Bool.or_false] at this ⊢
  exact hasF_mid a b t this
theorem matchF_two (q a b : ByteArray) (h : matchF q [a] = true) : matchF q [b, a] = true := by
  unfold matchF at h ⊢
  rw [List.all_eq_true] at h ⊢
  intro t ht
  have := h t ht
  simp only [List.any_cons, List.any_nil, Bool.or_false] at this ⊢
  rw [this, Bool.or_true]
theorem matchF_nil (q : ByteArray) (xs : List ByteArray) (h : q.size = 0) : matchF q xs = true := by
  unfold matchF
  rw [termsF_nil q h]; rfl

/-! ### the terms of two questions -/
theorem tl_space (r : List UInt8) : termsL (32 :: r : List UInt8).length (32 :: r) = termsL r.length r := by
  rw [List.length_cons]
  conv => lhs; unfold termsL
  rw [if_pos rfl]
theorem termsL_join : ∀ (n : Nat) (l m : List UInt8), l.length ≤ n → l.count 34 % 2 = 0 →
    termsL (l ++ 32 :: m).length (l ++ 32 :: m) = termsL l.length l ++ termsL m.length m
  | _, [], m, _, _ => by
    rw [List.nil_append, tl_space]
    rfl
  | 0, _ :: _, _, h, _ => by simp at h
  | n + 1, c :: r, m, h, hc => by
    have ih := termsL_join n
    have hr : r.length ≤ n := by simpa using h
    rw [List.cons_append, List.length_cons, List.length_cons]
    by_cases h1 : c = 32
    · subst h1
      conv => lhs; unfold termsL
      conv => rhs; lhs; unfold termsL
      rw [if_pos rfl, if_pos rfl]
      exact ih r m hr (by rwa [List.count_cons_of_ne (by decide)] at hc)
    · conv => lhs; unfold termsL
      conv => rhs; lhs; unfold termsL
      rw [if_neg h1, if_neg h1]
      by_cases h2 : c = 34
      · subst h2
        rw [if_pos rfl, if_pos rfl]
        rw [List.count_cons_self] at hc
        obtain ⟨tw, htw⟩ : ∃ tw, r.takeWhile (fun x => x != 34) = tw := ⟨_, rfl⟩
        obtain ⟨dw, hdw⟩ : ∃ dw, r.dropWhile (fun x => x != 34) = dw := ⟨_, rfl⟩
        have hsum : tw ++ dw = r := by rw [← htw, ← hdw]; exact List.takeWhile_append_dropWhile
        have htc : tw.count 34 = 0 := by
          rw [List.count_eq_zero]
          intro hm
          rw [← htw] at hm
          have := List.all_eq_true.1 List.all_takeWhile _ hm
          simp at this
        cases dw with
        | nil =>
          rw [List.append_nil] at hsum
          rw [← hsum, htc] at hc
          omega
        | cons d dr =>
          have hd : d = 34 := by
            have := List.head_dropWhile_not (fun x : UInt8 => x != 34) (by rw [hdw]; simp : r.dropWhile (fun x => x != 34) ≠ [])
            simp only [hdw, List.head_cons] at this
            simpa using this
          subst hd
          have hlen : tw.length + (dr.length + 1) = r.length := by rw [← hsum]; simp
          rw [← hsum, List.count_append, htc, List.count_cons_self] at hc
          have e1 : (r ++ 32 :: m).takeWhile (fun x => x != 34) = tw := by
            rw [List.takeWhile_append, if_neg (by rw [htw]; omega), htw]
          have e2 : (r ++ 32 :: m).dropWhile (fun x => x != 34) = 34 :: dr ++ 32 :: m := by
            rw [List.dropWhile_append, if_neg (by rw [hdw]; simp), hdw]
          rw [e1, e2, htw, hdw, List.append_assoc]
          congr 1
          rw [List.cons_append, List.drop_succ_cons, List.drop_zero, List.drop_succ_cons, List.drop_zero]
          rw [termsL_fuel (r ++ 32 :: m).length (dr ++ 32 :: m).length _ (by simp only [List.length_append, List.length_cons]; omega) (Nat.le_refl _), ih dr m (by omega) (by omega), termsL_fuel r.length dr.length dr (by omega) (Nat.le_refl _)]
      · rw [if_neg h2, if_neg h2]
        rw [← List.cons_append]
        have hpc : (c != 32 && c != 34) = true := by simp [h1, h2]
        obtain ⟨l, hl⟩ : ∃ l, c :: r = l := ⟨_, rfl⟩
        rw [hl]
        have hll : l.length = r.length + 1 := by rw [← hl]; rfl
        rw [hl] at hc
        obtain ⟨tw, htw⟩ : ∃ tw, l.takeWhile (fun x => x != 32 && x != 34) = tw := ⟨_, rfl⟩
        obtain ⟨dw, hdw⟩ : ∃ dw, l.dropWhile (fun x => x != 32 && x != 34) = dw := ⟨_, rfl⟩
        have hsum : tw ++ dw = l := by rw [← htw, ← hdw]; exact List.takeWhile_append_dropWhile
        have hpos : 0 < tw.length := by rw [← htw, ← hl, List.takeWhile_cons, if_pos hpc]; simp
        have hlen : tw.length + dw.length = l.length := by rw [← hsum]; simp
        have htc : tw.count 34 = 0 := by
          rw [List.count_eq_zero]
          intro hm
          rw [← htw] at hm
          have := List.all_eq_true.1 List.all_takeWhile _ hm
          simp at this
        rw [← hsum, List.count_append, htc, Nat.zero_add] at hc
        cases hdc : dw with
        | nil =>
          rw [hdc, List.append_nil] at hsum
          rw [hdc] at hlen
          have e1 : (l ++ 32 :: m).takeWhile (fun x => x != 32 && x != 34) = tw := by
            rw [List.takeWhile_append, if_pos (by rw [htw]; simpa using hlen), hsum]
            simp
          have e2 : (l ++ 32 :: m).dropWhile (fun x => x != 32 && x != 34) = 32 :: m := by
            rw [List.dropWhile_append, if_pos (by rw [hdw, hdc]; rfl)]
            simp
          rw [e1, e2, htw, hdw, hdc]
          rw [termsL_fuel _ (32 :: m : List UInt8).length (32 :: m) (by simp only [List.length_append, List.length_cons]; omega) (Nat.le_refl _), tl_space]
          cases hrl : r.length <;> simp [termsL]
        | cons d dr =>
          have e1 : (l ++ 32 :: m).takeWhile (fun x => x != 32 && x != 34) = tw := by
            rw [List.takeWhile_append, if_neg (by rw [htw]; rw [hdc] at hlen; simp at hlen; omega), htw]
          have e2 : (l ++ 32 :: m).dropWhile (fun x => x != 32 && x != 34) = dw ++ 32 :: m := by
            rw [List.dropWhile_append, if_neg (by rw [hdw, hdc]; simp), hdw]
          rw [e1, e2, htw, hdw, List.cons_append]
          congr 1
          rw [termsL_fuel _ (dw ++ 32 :: m).length _ (by simp only [List.length_append, List.length_cons]; omega) (Nat.le_refl _), ih dw m (by omega) hc, termsL_fuel r.length dw.length dw (by omega) (Nat.le_refl _)]
theorem termsF_join (p s q : ByteArray) (hs : s.data.toList = [32]) (hc : p.data.toList.count 34 % 2 = 0) : termsF (p ++ s ++ q) = termsF p ++ termsF q := by
  unfold termsF termsT
  rw [List.drop_zero, List.drop_zero, List.drop_zero, ByteArray.data_append, ByteArray.data_append, Array.toList_append, Array.toList_append, hs, List.append_assoc, List.singleton_append, termsL_join _ _ _ (Nat.le_refl _) hc, List.map_append]

/-! ### the order -/
theorem cmpB_neg : ∀ (a b : List UInt8), Lib.compareBytes a b = -Lib.compareBytes b a
  | [], [] => rfl
  | [], _ :: _ => rfl
  | _ :: _, [] => rfl
  | a :: r, b :: t => by
    have ih := cmpB_neg r t
    unfold Lib.compareBytes
    rcases Nat.lt_trichotomy a.toNat b.toNat with h | h | h
    · have h1 : a < b := UInt8.lt_iff_toNat_lt.2 h
      have h2 : ¬ b < a := fun h' => by have := UInt8.lt_iff_toNat_lt.1 h'; omega
      simp [h1, h2]
    · have h1 : a = b := UInt8.toNat_inj.1 h
      subst h1
      have h2 : ¬ a < a := fun h => by have := UInt8.lt_iff_toNat_lt.1 h; omega
      simp [ih, h2]
    · have h1 : b < a := UInt8.lt_iff_toNat_lt.2 h
      have h2 : ¬ a < b := fun h' => by have := UInt8.lt_iff_toNat_lt.1 h'; omega
      simp [h1, h2]
theorem cmpB_self (a : List UInt8) : Lib.compareBytes a a = 0 := by
  have := cmpB_neg a a
  omega
theorem cmpB_bd (a b : List UInt8) : -1 ≤ Lib.compareBytes a b ∧ Lib.compareBytes a b ≤ 1 := by
  rw [cmp_less]
  split
  · omega
  · split <;> omega
theorem cmpB_trans : ∀ (a b c : List UInt8), Lib.compareBytes a b ≤ 0 → Lib.compareBytes b c ≤ 0 → Lib.compareBytes a c ≤ 0
  | [], _, c, _, _ => by cases c <;> simp [Lib.compareBytes]
  | _ :: _, [], _, h, _ => by simp [Lib.compareBytes] at h
  | _ :: _, _ :: _, [], _, h => by simp [Lib.compareBytes] at h
  | a :: r, b :: t, c :: u, h1, h2 => by
    have ih := cmpB_trans r t u
    unfold Lib.compareBytes at h1 h2 ⊢
    have k1 := @UInt8.lt_iff_toNat_lt a b
    have k2 := @UInt8.lt_iff_toNat_lt b a
    have k3 := @UInt8.lt_iff_toNat_lt b c
    have k4 := @UInt8.lt_iff_toNat_lt c b
    have k5 := @UInt8.lt_iff_toNat_lt a c
    have k6 := @UInt8.lt_iff_toNat_lt c a
    by_cases hac : a < c
    · rw [if_pos hac]; omega
    · rw [if_neg hac]
      have e1 : ¬ b < a := fun h => by rw [if_neg (by rw [k1]; rw [k2] at h; omega), if_pos h] at h1; omega
      have e2 : ¬ c < b := fun h => by rw [if_neg (by rw [k3]; rw [k4] at h; omega), if_pos h] at h2; omega
      rw [k2] at e1
      rw [k4] at e2
      rw [k5] at hac
      rw [if_neg (by rw [k6]; omega)]
      rw [if_neg (by rw [k1]; omega), if_neg (by rw [k2]; omega)] at h1
      rw [if_neg (by rw [k3]; omega), if_neg (by rw [k4]; omega)] at h2
      exact ih h1 h2
theorem cmpF_neg (a b : ByteArray) : cmpF a b = -cmpF b a := cmpB_neg _ _
theorem cmpF_fold (a : ByteArray) : cmpF a (foldS a) = 0 := by
  unfold cmpF
  rw [foldS_idem]
  exact cmpB_self _
theorem cmpF_bd (a b : ByteArray) : -1 ≤ cmpF a b ∧ cmpF a b ≤ 1 := cmpB_bd _ _
theorem cmpF_trans (a b c : ByteArray) (h1 : cmpF a b ≤ 0) (h2 : cmpF b c ≤ 0) : cmpF a c ≤ 0 := cmpB_trans _ _ _ h1 h2
end Go.Proofs.Ytebfnglhbfkkdaa
