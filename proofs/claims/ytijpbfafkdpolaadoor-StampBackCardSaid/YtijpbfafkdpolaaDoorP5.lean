import Derived.Test.YtijpbfafkdpolaaDoorS16
namespace Go.Proofs.YtijpbfafkdpolaaDoor
open Go.RowKit Go.Shelf

/-! ### a text that was made: what it stands for, and its order -/
theorem nums_of {L : List Int} (h : bytesI L) : nums (strOfNums L) = L := by
  unfold nums
  rw [strOfNums_data, List.map_map]
  have : ∀ x ∈ L, ((fun b : UInt8 => (b.toNat : Int)) ∘ fun n : Int => UInt8.ofNat n.toNat) x = x := by
    intro x hx
    have := h x hx
    simp only [Function.comp_apply, UInt8.toNat_ofNat']
    omega
  rw [List.map_congr_left this, List.map_id']
theorem stamp_bytes (y m d r : Int) : bytesI (stampL y m d r) := by
  intro x hx
  simp only [stampL, fourL, twoL, List.cons_append, List.nil_append, List.mem_cons, List.not_mem_nil, or_false] at hx
  omega
theorem two_dec {x : Int} (h0 : 0 ≤ x) (h1 : x ≤ 99) : decF (twoL x) = x ∧ (twoL x).all digB = true := by
  constructor
  · simp only [decF, twoL, List.foldl]
    omega
  · simp only [twoL, List.all_cons, List.all_nil, Bool.and_true, digB, Bool.and_eq_true, decide_eq_true_eq]
    omega
theorem four_dec {x : Int} (h0 : 0 ≤ x) (h1 : x ≤ 9999) : decF (fourL x) = x ∧ (fourL x).all digB = true := by
  constructor
  · simp only [decF, fourL, List.foldl]
    omega
  · simp only [fourL, List.all_cons, List.all_nil, Bool.and_true, digB, Bool.and_eq_true, decide_eq_true_eq]
    omega
theorem longF_31 (y m : Int) : longF y m ≤ 31 := (longF_bd y m).2
theorem stamp_secs {y m d r : Int} (hk : okD y m d = true) (hr : 0 ≤ r ∧ r ≤ 86399) : secOK (strOfNums (stampL y m d r)) = true ∧ secV (strOfNums (stampL y m d r)) = daysF y m d * 86400 + r := by
  obtain ⟨y0, y1, m0, m1, d0, d1⟩ := (okD_iff y m d).1 hk
  have d2 := longF_31 y m
  have hn := nums_of (stamp_bytes y m d r)
  have hz : (strOfNums (stampL y m d r)).size = 20 := by rw [strOfNums_size]; rfl
  generalize strOfNums (stampL y m d r) = s at *
  have str : ∀ a n, strN s a n = ((stampL y m d r).drop a).take n := fun a n => by unfold strN; rw [hn]
  have byt : ∀ i, byteF s i = (stampL y m d r).getD i 0 := fun i => by unfold byteF; rw [hn]
  have two : ∀ a x, strN s a 2 = twoL x → 0 ≤ x → x ≤ 99 → numF s a 2 = x := fun a x e h0 h1 => by
    obtain ⟨g1, g2⟩ := two_dec h0 h1
    rw [numF_yes (by rw [e]; exact g2), e, g1]
  have n0 : numF s 0 4 = y := by
    obtain ⟨g1, g2⟩ := four_dec y0 y1
    have e : strN s 0 4 = fourL y := by rw [str]; rfl
    rw [numF_yes (by rw [e]; exact g2), e, g1]
  have n1 : numF s 5 2 = m := two 5 m (by rw [str]; rfl) (by omega) (by omega)
  have n2 : numF s 8 2 = d := two 8 d (by rw [str]; rfl) (by omega) (by omega)
  have n3 : hF s = r / 3600 := two 11 _ (by rw [str]; rfl) (by omega) (by omega)
  have n4 : miF s = r / 60 % 60 := two 14 _ (by rw [str]; rfl) (by omega) (by omega)
  have n5 : seF s = r % 60 := two 17 _ (by rw [str]; rfl) (by omega) (by omega)
  have hsep : sepX s = false := (sep_iff s).2 ⟨by rw [byt]; rfl, by rw [byt]; rfl, by rw [byt]; rfl, by rw [byt]; rfl, by rw [byt]; rfl, by rw [hz, byt]; rfl⟩
  have hcl : clockX s = false := (clock_iff s).2 (by rw [n3, n4, n5]; omega)
  have hfr : fracX s = false := by unfold fracX; rw [hz]; rfl
  have ok : secOK s = true := by
    unfold secOK
    rw [hz, hsep, n0, n1, n2, hk, hcl, hfr]
    rfl
  refine ⟨ok, ?_⟩
  unfold secV
  rw [if_pos ok, n0, n1, n2, n3, n4, n5]
  have : dayV y m d = daysF y m d := by unfold dayV; rw [if_pos hk]
  rw [this]
  omega
theorem sgn_lt {x y : Int} (h : x < y) : sgn x y = -1 := by unfold sgn; rw [if_pos h]
theorem sgn_gt {x y : Int} (h : y < x) : sgn x y = 1 := by unfold sgn; rw [if_neg (by omega), if_pos h]
theorem sgn_self (x : Int) : sgn x x = 0 := by unfold sgn; rw [if_neg (by omega), if_neg (by omega)]
theorem cmp2 (x x' : Int) (b b' : List Int) : cmpI (twoL x ++ b) (twoL x' ++ b') = if cmpI (twoL x) (twoL x') = 0 then cmpI b b' else cmpI (twoL x) (twoL x') := cmpI_app (twoL x) (twoL x') b b' rfl
theorem cmp4 (x x' : Int) (b b' : List Int) : cmpI (fourL x ++ b) (fourL x' ++ b') = if cmpI (fourL x) (fourL x') = 0 then cmpI b b' else cmpI (fourL x) (fourL x') := cmpI_app (fourL x) (fourL x') b b' rfl
theorem cmp1 (c : Int) (b b' : List Int) : cmpI ([c] ++ b) ([c] ++ b') = cmpI b b' := by rw [cmpI_app [c] [c] b b' rfl]; simp [cmpI]
theorem stamp_order {y m d r y' m' d' r' : Int} (hk : okD y m d = true) (hk' : okD y' m' d' = true) (hr : 0 ≤ r ∧ r ≤ 86399) (hr' : 0 ≤ r' ∧ r' ≤ 86399) :
    cmpI (stampL y m d r) (stampL y' m' d' r') = sgn (daysF y m d * 86400 + r) (daysF y' m' d' * 86400 + r') := by
  obtain ⟨y0, y1, m0, m1, d0, d1⟩ := (okD_iff y m d).1 hk
  have d2 := longF_31 y m
  obtain ⟨y0', y1', m0', m1', d0', d1'⟩ := (okD_iff y' m' d').1 hk'
  have d2' := longF_31 y' m'
  have two : ∀ x x' : Int, 0 ≤ x → x ≤ 99 → 0 ≤ x' → x' ≤ 99 → cmpI (twoL x) (twoL x') = sgn x x' := fun x x' a b a' b' => by
    rw [cmpI_dec (twoL x) (twoL x') rfl (two_dec a b).2 (two_dec a' b').2, (two_dec a b).1, (two_dec a' b').1]
  have e4 : cmpI (fourL y) (fourL y') = sgn y y' := by
    rw [cmpI_dec (fourL y) (fourL y') rfl (four_dec y0 y1).2 (four_dec y0' y1').2, (four_dec y0 y1).1, (four_dec y0' y1').1]
  have one : ∀ c : Int, cmpI [c] [c] = 0 := fun c => by simp [cmpI]
  have hL : cmpI (stampL y m d r) (stampL y' m' d' r') = if sgn y y' = 0 then (if sgn m m' = 0 then (if sgn d d' = 0 then (if sgn (r / 3600) (r' / 3600) = 0 then (if sgn (r / 60 % 60) (r' / 60 % 60) = 0 then (if sgn (r % 60) (r' % 60) = 0 then 0 else sgn (r % 60) (r' % 60)) else sgn (r / 60 % 60) (r' / 60 % 60)) else sgn (r / 3600) (r' / 3600)) else sgn d d') else sgn m m') else sgn y y' := by
    unfold stampL
    rw [cmp4, cmp1, cmp2, cmp1, cmp2, cmp1, cmp2, cmp1, cmp2, cmp1, cmp2]
    rw [e4, two m m' (by omega) (by omega) (by omega) (by omega), two d d' (by omega) (by omega) (by omega) (by omega), two (r / 3600) (r' / 3600) (by omega) (by omega) (by omega) (by omega), two (r / 60 % 60) (r' / 60 % 60) (by omega) (by omega) (by omega) (by omega), two (r % 60) (r' % 60) (by omega) (by omega) (by omega) (by omega)]
    simp only [one, if_true]
  rw [hL]
  rcases (by omega : daysF y m d < daysF y' m' d' ∨ daysF y' m' d' < daysF y m d ∨ daysF y m d = daysF y' m' d') with hD | hD | hD
  · rw [sgn_lt (x := daysF y m d * 86400 + r) (by omega)]
    rcases days_conv hk hk' hD with h | ⟨rfl, h | ⟨rfl, h⟩⟩
    · rw [sgn_lt h]; rfl
    · rw [sgn_self, sgn_lt h]; rfl
    · rw [sgn_self, sgn_self, sgn_lt h]; rfl
  · rw [sgn_gt (x := daysF y m d * 86400 + r) (by omega)]
    rcases days_conv hk' hk hD with h | ⟨rfl, h | ⟨rfl, h⟩⟩
    · rw [sgn_gt h]; rfl
    · rw [sgn_self, sgn_gt h]; rfl
    · rw [sgn_self, sgn_self, sgn_gt h]; rfl
  · obtain ⟨rfl, rfl, rfl⟩ := days_inj hk hk' hD
    rw [sgn_self, sgn_self, sgn_self]
    simp only [if_true]
    rcases (by omega : r < r' ∨ r' < r ∨ r = r') with h | h | h
    · rw [sgn_lt (x := daysF y m d * 86400 + r) (by omega)]
      rcases (by omega : r / 3600 < r' / 3600 ∨ (r / 3600 = r' / 3600 ∧ (r / 60 % 60 < r' / 60 % 60 ∨ (r / 60 % 60 = r' / 60 % 60 ∧ r % 60 < r' % 60)))) with g | ⟨g, g' | ⟨g', g''⟩⟩
      · rw [sgn_lt g]; rfl
      · rw [g, sgn_self, sgn_lt g']; rfl
      · rw [g, g', sgn_self, sgn_self, sgn_lt g'']; rfl
    · rw [sgn_gt (x := daysF y m d * 86400 + r) (by omega)]
      rcases (by omega : r' / 3600 < r / 3600 ∨ (r / 3600 = r' / 3600 ∧ (r' / 60 % 60 < r / 60 % 60 ∨ (r / 60 % 60 = r' / 60 % 60 ∧ r' % 60 < r % 60)))) with g | ⟨g, g' | ⟨g', g''⟩⟩
      · rw [sgn_gt g]; rfl
      · rw [g, sgn_self, sgn_gt g']; rfl
      · rw [g, g', sgn_self, sgn_self, sgn_gt g'']; rfl
    · subst h
      rw [sgn_self, sgn_self, sgn_self, sgn_self]
      rfl
/-- what Make makes, and what it stands for -/
theorem mk_secs {n : Int} {v : ByteArray} (h : IsMk n v) : (inMk n = false ∧ v = ByteArray.empty) ∨ (inMk n = true ∧ secOK v = true ∧ secV v = n ∧ v.size = 20) := by
  rcases h with h | ⟨h0, y, m, d, hk, hd, rfl⟩
  · exact .inl h
  · right
    obtain ⟨g1, g2⟩ := stamp_secs (r := n % 86400) hk (by omega)
    exact ⟨h0, g1, by rw [g2, hd]; omega, by rw [strOfNums_size]; rfl⟩
theorem mk_order {a b : Int} {s t : ByteArray} (hs : IsMk a s) (ht : IsMk b t) (ha : inMk a = true) (hb : inMk b = true) : Lib.compareBytes s.data.toList t.data.toList = sgn a b ∧ cmpV s t = sgn a b := by
  have k1 := mk_secs hs
  have k2 := mk_secs ht
  rcases hs with ⟨h, _⟩ | ⟨_, y, m, d, hk, hd, rfl⟩
  · rw [h] at ha; cases ha
  rcases ht with ⟨h, _⟩ | ⟨_, y', m', d', hk', hd', rfl⟩
  · rw [h] at hb; cases hb
  have hc : Lib.compareBytes (strOfNums (stampL y m d (a % 86400))).data.toList (strOfNums (stampL y' m' d' (b % 86400))).data.toList = sgn a b := by
    rw [cmp_nums _ _ (stamp_bytes _ _ _ _) (stamp_bytes _ _ _ _), stamp_order hk hk' (by omega) (by omega), hd, hd']
    congr 1 <;> omega
  refine ⟨hc, ?_⟩
  rcases k1 with ⟨h, _⟩ | ⟨_, o1, v1, _⟩
  · rw [h] at ha; cases ha
  rcases k2 with ⟨h, _⟩ | ⟨_, o2, v2, _⟩
  · rw [h] at hb; cases hb
  unfold cmpV
  rw [if_pos o1, if_pos o2, v1, v2]
  rcases (by omega : a < b ∨ b < a ∨ a = b) with h | h | h
  · rw [if_pos h, sgn_lt h]
  · rw [if_neg (by omega), if_pos h, sgn_gt h]
  · subst h
    rw [if_neg (by omega), if_neg (by omega), sgn_self]
    have : strOfNums (stampL y m d (a % 86400)) = strOfNums (stampL y' m' d' (a % 86400)) := by
      obtain ⟨rfl, rfl, rfl⟩ := days_inj hk hk' (by omega)
      rfl
    rw [this]
    exact sgn_self _
end Go.Proofs.YtijpbfafkdpolaaDoor
