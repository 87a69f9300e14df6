import Derived.Test.YtijpbfafkdpolaaDoorS12
import Derived.Lib.Repeat
import Derived.Sort.Walk0
namespace Go.Proofs.YtijpbfafkdpolaaDoor
open Go.RowKit Go.Shelf

/-! ### how texts of digits compare; what stands behind a stamp's point -/
def cmpI : List Int → List Int → Int
  | [], [] => 0
  | [], _ :: _ => -1
  | _ :: _, [] => 1
  | a :: x, b :: y => if a < b then -1 else if b < a then 1 else cmpI x y
def bytesI (l : List Int) : Prop := ∀ x ∈ l, 0 ≤ x ∧ x ≤ 255
theorem cmp_nums : ∀ (l l' : List Int), bytesI l → bytesI l' → Lib.compareBytes (strOfNums l).data.toList (strOfNums l').data.toList = cmpI l l'
  | [], [], _, _ => rfl
  | [], _ :: _, _, _ => rfl
  | _ :: _, [], _, _ => rfl
  | a :: x, b :: y, h, h' => by
    have ih := cmp_nums x y (fun z hz => h z (List.mem_cons_of_mem _ hz)) (fun z hz => h' z (List.mem_cons_of_mem _ hz))
    have ha := h a (List.mem_cons_self)
    have hb := h' b (List.mem_cons_self)
    rw [strOfNums_data, strOfNums_data] at ih ⊢
    rw [List.map_cons, List.map_cons]
    unfold Lib.compareBytes cmpI
    rw [ih]
    have e1 : (UInt8.ofNat a.toNat < UInt8.ofNat b.toNat) ↔ a < b := by
      rw [UInt8.lt_iff_toNat_lt, UInt8.toNat_ofNat', UInt8.toNat_ofNat']
      omega
    have e2 : (UInt8.ofNat b.toNat < UInt8.ofNat a.toNat) ↔ b < a := by
      rw [UInt8.lt_iff_toNat_lt, UInt8.toNat_ofNat', UInt8.toNat_ofNat']
      omega
    simp only [e1, e2]
theorem cmpI_app : ∀ (a a' b b' : List Int), a.length = a'.length → cmpI (a ++ b) (a' ++ b') = if cmpI a a' = 0 then cmpI b b' else cmpI a a'
  | [], [], b, b', _ => by simp [cmpI]
  | [], _ :: _, _, _, h => by simp at h
  | _ :: _, [], _, _, h => by simp at h
  | x :: a, y :: a', b, b', h => by
    have ih := cmpI_app a a' b b' (by simpa using h)
    rw [List.cons_append, List.cons_append, show cmpI (x :: (a ++ b)) (y :: (a' ++ b')) = (if x < y then -1 else if y < x then 1 else cmpI (a ++ b) (a' ++ b')) from rfl, show cmpI (x :: a) (y :: a') = (if x < y then -1 else if y < x then 1 else cmpI a a') from rfl]
    rw [ih]
    by_cases h1 : x < y
    · simp [h1]
    · by_cases h2 : y < x
      · simp [h1, h2]
      · simp [h1, h2]
def sgn (x y : Int) : Int := if x < y then -1 else if y < x then 1 else 0
theorem cmpI_rev : ∀ (r r' : List Int), r.length = r'.length → r.all digB = true → r'.all digB = true → cmpI r.reverse r'.reverse = sgn (decF r.reverse) (decF r'.reverse)
  | [], [], _, _, _ => rfl
  | [], _ :: _, h, _, _ => by simp at h
  | _ :: _, [], h, _, _ => by simp at h
  | b :: r, b' :: r', h, h1, h2 => by
    rw [List.all_cons, Bool.and_eq_true] at h1 h2
    have ih := cmpI_rev r r' (by simpa using h) h1.2 h2.2
    have g1 : 48 ≤ b ∧ b ≤ 57 := by simpa [digB] using h1.1
    have g2 : 48 ≤ b' ∧ b' ≤ 57 := by simpa [digB] using h2.1
    rw [List.reverse_cons, List.reverse_cons, cmpI_app _ _ _ _ (by simpa using h), decF_app, decF_app, ih]
    simp only [cmpI]
    unfold sgn
    repeat' split
    all_goals first | rfl | omega
theorem cmpI_dec (l l' : List Int) (h : l.length = l'.length) (h1 : l.all digB = true) (h2 : l'.all digB = true) : cmpI l l' = sgn (decF l) (decF l') := by
  have := cmpI_rev l.reverse l'.reverse (by simpa using h) (by rw [List.all_reverse]; exact h1) (by rw [List.all_reverse]; exact h2)
  rwa [List.reverse_reverse, List.reverse_reverse] at this
/-- the digits behind the point -/
def fracL (s : ByteArray) : List Int := strN s 20 (s.size - 21)
def nineL (s : ByteArray) : List Int := fracL s ++ List.replicate (9 - (s.size - 21)) 48
def partL (s : ByteArray) : List Int := nineL s ++ [48]
def partV (s : ByteArray) : Int := decF (nineL s)
/-- a stamp's end -/
theorem sec_tail {s : ByteArray} (h : secOK s = true) : (s.size = 20 ∨ (22 ≤ s.size ∧ s.size ≤ 30 ∧ byteF s 19 = 46)) ∧ byteF s (s.size - 1) = 90 ∧ (fracL s).all digB = true ∧ (fracL s).length = s.size - 21 := by
  obtain ⟨h1, h2, _, _, h5⟩ := secOK_head h
  have hz := ((sep_iff s).1 h2).2.2.2.2.2
  by_cases h20 : s.size = 20
  · refine ⟨.inl h20, hz, ?_, ?_⟩
    · unfold fracL; rw [show s.size - 21 = 0 by omega, strN_zero]; rfl
    · unfold fracL; rw [show s.size - 21 = 0 by omega, strN_zero]; rfl
  · unfold fracX at h5
    rw [decide_eq_true (show 20 < s.size by omega), Bool.true_and] at h5
    simp only [Bool.or_eq_false_iff, bne_eq_false_iff_eq, decide_eq_false_iff_not] at h5
    obtain ⟨⟨⟨⟨g1, g2⟩, g3⟩, g4⟩, _⟩ := h5
    exact ⟨.inr ⟨by omega, by omega, g1⟩, hz, numF_no (by omega), strN_len s 20 _ (by omega)⟩
theorem nine_facts {s : ByteArray} (h : secOK s = true) : (nineL s).length = 9 ∧ (nineL s).all digB = true := by
  obtain ⟨h1, _, h3, h4⟩ := sec_tail h
  unfold nineL
  constructor
  · rw [List.length_append, List.length_replicate, h4]; omega
  · rw [List.all_append, h3, List.all_replicate]
    simp [digB]
theorem part_bytes {s : ByteArray} (h : secOK s = true) : bytesI (partL s) := by
  have h2 := (nine_facts h).2
  rw [List.all_eq_true] at h2
  intro x hx
  unfold partL at hx
  rcases List.mem_append.1 hx with hx | hx
  · have := h2 x hx
    unfold digB at this
    have := of_decide_eq_true this
    omega
  · rw [List.mem_singleton.1 hx]; omega
theorem part_cmp {a b : ByteArray} (ha : secOK a = true) (hb : secOK b = true) : Lib.compareBytes (strOfNums (partL a)).data.toList (strOfNums (partL b)).data.toList = sgn (partV a) (partV b) := by
  obtain ⟨l1, d1⟩ := nine_facts ha
  obtain ⟨l2, d2⟩ := nine_facts hb
  rw [cmp_nums _ _ (part_bytes ha) (part_bytes hb)]
  unfold partL
  rw [cmpI_app _ _ _ _ (by omega), cmpI_dec _ _ (by omega) d1 d2]
  unfold partV
  simp only [cmpI]
  split
  · next h => rw [h]; rfl
  · rfl
theorem partV_bd {s : ByteArray} (h : secOK s = true) : 0 ≤ partV s ∧ partV s < 1000000000 := by
  obtain ⟨l1, d1⟩ := nine_facts h
  have := decF_bd _ d1
  rw [l1] at this
  exact this
/-! the program's part: Trim, Repeat, Count -/
theorem count_nums (c : UInt8) : ∀ l : List UInt8, l.count c = (l.map fun b => (b.toNat : Int)).count (c.toNat : Int)
  | [] => rfl
  | b :: l => by
    rw [List.count_cons, List.map_cons, List.count_cons, count_nums c l]
    have e : (b == c) = ((b.toNat : Int) == (c.toNat : Int)) := by
      rw [Bool.eq_iff_iff, beq_iff_eq, beq_iff_eq]
      constructor
      · rintro rfl; rfl
      · intro h; exact UInt8.toNat_inj.1 (by omega)
    rw [e]
theorem nums_cut (s : ByteArray) (h : 19 ≤ s.size) : nums s = strN s 0 19 ++ (nums s).drop 19 := by
  unfold strN
  rw [List.drop_zero, List.take_append_drop]
theorem head_no46 {s : ByteArray} (hz : 19 ≤ s.size) (h : okP s 19 = true) : (strN s 0 19).count 46 = 0 := by
  rw [List.count_eq_zero]
  intro hm
  rw [strN_map s 0 19 (by omega), List.mem_map] at hm
  obtain ⟨i, hi, he⟩ := hm
  rw [List.mem_range] at hi
  rw [Nat.zero_add] at he
  have hr : rightB (formL.getD i 0) (byteF s i) = true := by
    have := okP_le s (i + 1) (19 - (i + 1)) (by rw [show i + 1 + (19 - (i + 1)) = 19 by omega]; exact h)
    rw [okP_succ, Bool.and_eq_true] at this
    exact this.2
  rw [he] at hr
  have hall : ∀ i : Fin 19, rightB (formL.getD i.val 0) 46 = false := by decide
  rw [hall ⟨i, hi⟩] at hr
  cases hr
theorem repeat48 : ∀ c, Lib.repeatL [48] c = List.replicate c (48 : UInt8)
  | 0 => rfl
  | c + 1 => by rw [Lib.repeatL, repeat48 c, List.replicate_succ]; rfl
theorem trim_point (d : List UInt8) (hd : ∀ b ∈ d, [(46 : UInt8), 90].contains b = false) (hne : d ≠ []) : Lib.trimS (46 :: (d ++ [90])) [46, 90] = d := by
  have hr : Lib.trimRightS (46 :: (d ++ [90])) [46, 90] = 46 :: d := by
    unfold Lib.trimRightS
    rw [List.reverse_cons, List.reverse_append, List.reverse_singleton, List.singleton_append, List.cons_append, List.dropWhile_cons]
    rw [if_pos (by decide)]
    cases hx : d.reverse with
    | nil => exact absurd (List.reverse_eq_nil_iff.1 hx) hne
    | cons y r =>
      have hy : [(46 : UInt8), 90].contains y = false := hd y (List.mem_reverse.1 (by rw [hx]; exact List.mem_cons_self))
      rw [List.cons_append, List.dropWhile_cons, if_neg (by rw [hy]; decide)]
      rw [← List.cons_append, ← hx, List.reverse_append, List.reverse_reverse]
      rfl
  unfold Lib.trimS
  rw [hr]
  unfold Lib.trimLeftS
  rw [List.dropWhile_cons, if_pos (by decide)]
  cases d with
  | nil => exact absurd rfl hne
  | cons y r => rw [List.dropWhile_cons, if_neg (by rw [hd y (List.mem_cons_self)]; decide)]
/-- the tail's bytes -/
theorem tail_bytes {s : ByteArray} (hz : 22 ≤ s.size) : (nums s).drop 19 = byteF s 19 :: (fracL s ++ [byteF s (s.size - 1)]) := by
  have h1 : (nums s).drop 19 = strN s 19 (s.size - 19) := by
    unfold strN
    rw [List.take_of_length_le (by rw [List.length_drop, nums_len]; omega)]
  rw [h1, strN_map s 19 _ (by omega)]
  unfold fracL
  rw [strN_map s 20 _ (by omega)]
  rw [show s.size - 19 = (s.size - 21 + 1) + 1 by omega, List.range_succ, List.map_append, List.range_succ_eq_map, List.map_cons, List.map_map]
  rw [List.cons_append]
  have e1 : List.map ((fun i => byteF s (19 + i)) ∘ Nat.succ) (List.range (s.size - 21)) = List.map (fun i => byteF s (20 + i)) (List.range (s.size - 21)) := by
    apply List.map_congr_left
    intro i _
    show byteF s (19 + (i + 1)) = byteF s (20 + i)
    congr 1
    omega
  rw [e1]
  simp only [List.map_cons, List.map_nil]
  rw [show 19 + (s.size - 21 + 1) = s.size - 1 by omega]
theorem frac_no46 {s : ByteArray} (h : (fracL s).all digB = true) : (fracL s).count 46 = 0 := by
  rw [List.count_eq_zero]
  intro hm
  have := List.all_eq_true.1 h 46 hm
  revert this
  decide
theorem count_point {s : ByteArray} (h : secOK s = true) : Lib.countByte s.data.toList 46 = (if s.size = 20 then 0 else 1) := by
  obtain ⟨h1, h2, h3, h4⟩ := sec_tail h
  have hf := sec_form h
  have hc := count_nums 46 s.data.toList
  unfold Lib.countByte
  rw [hc]
  show (nums s).count ((46 : UInt8).toNat : Int) = _
  rw [show (((46 : UInt8).toNat : Nat) : Int) = 46 from rfl, nums_cut s (by omega), List.count_append, head_no46 (by omega) hf]
  by_cases h20 : s.size = 20
  · rw [if_pos h20]
    have e : (nums s).drop 19 = [byteF s 19] := by
      have h5 : (nums s).drop 19 = strN s 19 1 := by
        unfold strN
        rw [List.take_of_length_le (by rw [List.length_drop, nums_len]; omega)]
      rw [h5, strN_map s 19 1 (by omega)]
      rfl
    rw [e, show byteF s 19 = 90 by rw [← h2, h20]]
    rfl
  · rw [if_neg h20, tail_bytes (by omega), h2, (by rcases h1 with h1 | h1 <;> omega : byteF s 19 = 46), List.count_cons, List.count_append, frac_no46 h3]
    rfl
theorem ext_list (s : ByteArray) (h : 19 ≤ s.size) : (s.extract 19 s.size).data.toList = s.data.toList.drop 19 := by
  rw [ByteArray.data_extract, Array.toList_extract, List.extract_eq_take_drop]
  exact List.take_of_length_le (by rw [List.length_drop]; simp)
theorem strOfNums_map (l : List UInt8) : (strOfNums (l.map fun b => (b.toNat : Int))).data.toList = l := by
  rw [strOfNums_data, List.map_map]
  have : ((fun n : Int => UInt8.ofNat n.toNat) ∘ fun b : UInt8 => (b.toNat : Int)) = id := by
    funext b
    simp
  rw [this, List.map_id]
theorem part_text {s : ByteArray} (h : secOK s = true) : (⟨(Lib.trimS (s.extract 19 s.size).data.toList [46, 90]).toArray⟩ : ByteArray) ++ ⟨(Lib.repeatL [48] (11 - (s.size - 19) + (if s.size = 20 then 0 else 1))).toArray⟩ = strOfNums (partL s) := by
  obtain ⟨h1, h2, h3, h4⟩ := sec_tail h
  rw [ext_list s (by omega), repeat48]
  have hp : partL s = fracL s ++ List.replicate (10 - (s.size - 21)) 48 := by
    unfold partL nineL
    rw [List.append_assoc, show 10 - (s.size - 21) = (9 - (s.size - 21)) + 1 by omega, List.replicate_succ']
  have key : Lib.trimS (s.data.toList.drop 19) [46, 90] = (strOfNums (fracL s)).data.toList := by
    by_cases h20 : s.size = 20
    · have e : s.data.toList.drop 19 = [90] := by
        have hl : (s.data.toList.drop 19).length = 1 := by rw [List.length_drop]; simp; omega
        obtain ⟨c, hc⟩ := List.length_eq_one_iff.1 hl
        have hn : (nums s).drop 19 = [(c.toNat : Int)] := by unfold nums; rw [← List.map_drop, hc]; rfl
        have h5 : (nums s).drop 19 = [byteF s 19] := by
          have h5 : (nums s).drop 19 = strN s 19 1 := by
            unfold strN
            rw [List.take_of_length_le (by rw [List.length_drop, nums_len]; omega)]
          rw [h5, strN_map s 19 1 (by omega)]
          rfl
        rw [h5] at hn
        have h6 : byteF s 19 = 90 := by rw [← h2, h20]
        rw [h6] at hn
        simp only [List.cons.injEq, and_true] at hn
        rw [hc, UInt8.toNat_inj.1 (show c.toNat = (90 : UInt8).toNat by have : (90 : UInt8).toNat = 90 := rfl; omega)]
      rw [e]
      unfold fracL
      rw [show s.size - 21 = 0 by omega, strN_zero]
      decide
    · have hb : byteF s 19 = 46 := by rcases h1 with h1 | h1 <;> omega
      have ht := tail_bytes (s := s) (by omega)
      rw [hb, h2] at ht
      -- back to bytes
      have e : s.data.toList.drop 19 = 46 :: ((strOfNums (fracL s)).data.toList ++ [90]) := by
        have h6 : strOfNums ((nums s).drop 19) = strOfNums (46 :: (fracL s ++ [90])) := by rw [ht]
        have h7 : (strOfNums ((nums s).drop 19)).data.toList = s.data.toList.drop 19 := by
          unfold nums
          rw [← List.map_drop]
          exact strOfNums_map _
        rw [← h7, h6]
        simp [strOfNums]
      rw [e]
      refine trim_point _ (fun b hb2 => ?_) ?_
      · rw [strOfNums_data, List.mem_map] at hb2
        obtain ⟨x, hx, rfl⟩ := hb2
        have hd := List.all_eq_true.1 h3 x hx
        have hd2 : 48 ≤ x ∧ x ≤ 57 := of_decide_eq_true hd
        have hall : ∀ n : Fin 58, 48 ≤ n.val → [(46 : UInt8), 90].contains (UInt8.ofNat n.val) = false := by decide
        exact hall ⟨x.toNat, by omega⟩ (by show 48 ≤ x.toNat; omega)
      · intro hnil
        have : (strOfNums (fracL s)).data.toList.length = 0 := by rw [hnil]; rfl
        rw [strOfNums_data, List.length_map, h4] at this
        omega
  rw [key, hp]
  apply bytes_ext
  rw [strOfNums_app]
  have e : 11 - (s.size - 19) + (if s.size = 20 then 0 else 1) = 10 - (s.size - 21) := by
    by_cases h20 : s.size = 20
    · rw [if_pos h20]; omega
    · rw [if_neg h20]; omega
  rw [e]
  simp [strOfNums]
end Go.Proofs.YtijpbfafkdpolaaDoor
