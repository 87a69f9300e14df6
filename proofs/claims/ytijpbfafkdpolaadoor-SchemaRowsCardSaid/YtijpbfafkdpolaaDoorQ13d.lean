import Derived.Test.YtijpbfafkdpolaaDoorQ8
namespace Go.Proofs.YtijpbfafkdpolaaDoor
open Go.RowKit Go.Shelf

theorem ret_boolM'' {a b : Bool} (h : a = b) : Ending.returned (.bool a) = .returned (.bool b) := by rw [h]
def noP : Prp := (⟨#[]⟩, 0, ⟨#[]⟩, false, ⟨#[]⟩)
def findF : List Prp → ByteArray → Prp × Bool
  | [], _ => (noP, false)
  | p :: r, n => if p.1 = n then (p, true) else findF r n
def FindEnd (W : World) (x : Prp × Bool) (e : Ending) (w' : World) : Prop := e = .returned (.tuple #[.agg #[.string x.1.1, .int .i64 x.1.2.1, .string x.1.2.2.1, .bool x.1.2.2.2.1, .string x.1.2.2.2.2], .bool x.2]) ∧ Below W.heap.size W w'
theorem own_cell {w : World} {base e g n c i : Nat} {t : List Prp} (h : w.ownsRow base e 5 (.slice (some ⟨g, 0, none⟩) n c) n (cellsP t)) (hn : t.length = n) (hi : i < n) : ∀ k v, (encP (t.getD i noP))[k]? = some v → w.cell? ⟨g, i * 5 + k, none⟩ = some v := by
  intro k v hv
  have hk : k < 5 := (List.getElem?_eq_some_iff.1 hv).1
  rw [h.cellAt (i * 5 + k) (by omega), cellsP_at t i k (by omega) hk, ← hv]
  simp [List.getD, List.getElem?_eq_getElem (show i < t.length by omega)]
theorem find_drop (t : List Prp) (i : Nat) (h : i < t.length) (n : ByteArray) : findF (t.drop i) n = if (t.getD i noP).1 = n then (t.getD i noP, true) else findF (t.drop (i + 1)) n := by
  rw [List.drop_eq_getElem_cons h, findF]
  simp [List.getD, List.getElem?_eq_getElem h]
theorem below_5 {B : Nat} {a w : World} {b : Nat} (h : Below B a w) (hb : B ≤ b) (v0 v1 v2 v3 v4 : Value) : Below B a (((((w.setCell ⟨b, 0, none⟩ v0).setCell ⟨b, 1, none⟩ v1).setCell ⟨b, 2, none⟩ v2).setCell ⟨b, 3, none⟩ v3).setCell ⟨b, 4, none⟩ v4) :=
  ((((h.setCell (p := ⟨b, 0, none⟩) hb _).setCell (p := ⟨b, 1, none⟩) hb _).setCell (p := ⟨b, 2, none⟩) hb _).setCell (p := ⟨b, 3, none⟩) hb _).setCell (p := ⟨b, 4, none⟩) hb _
theorem str_eq {x y : ByteArray} (h : x = y) : (x.toList == y.toList) = true := by simp [h]
theorem str_ne {x y : ByteArray} (h : x ≠ y) : (x.toList == y.toList) = false := by
  rw [beq_eq_false_iff_ne, ByteArray.toList_eq, ByteArray.toList_eq]; exact fun e => h (bytes_extM e)

theorem props_len (of : ByteArray) : (propsF of).length ≤ 100 := by
  by_cases h0 : of = ⟨[67, 97, 114, 100].toArray⟩
  · have e : propsF of = T_Card := by unfold propsF; rw [if_pos h0]
    rw [e]; decide
  by_cases h1 : of = ⟨[65, 100, 100, 114, 101, 115, 115].toArray⟩
  · have e : propsF of = T_Address := by unfold propsF; rw [if_neg h0, if_pos h1]
    rw [e]; decide
  by_cases h2 : of = ⟨[65, 100, 100, 114, 101, 115, 115, 67, 111, 109, 112, 111, 110, 101, 110, 116].toArray⟩
  · have e : propsF of = T_AddressComponent := by unfold propsF; rw [if_neg h0, if_neg h1, if_pos h2]
    rw [e]; decide
  by_cases h3 : of = ⟨[65, 110, 110, 105, 118, 101, 114, 115, 97, 114, 121].toArray⟩
  · have e : propsF of = T_Anniversary := by unfold propsF; rw [if_neg h0, if_neg h1, if_neg h2, if_pos h3]
    rw [e]; decide
  by_cases h4 : of = ⟨[69, 109, 97, 105, 108, 65, 100, 100, 114, 101, 115, 115].toArray⟩
  · have e : propsF of = T_EmailAddress := by unfold propsF; rw [if_neg h0, if_neg h1, if_neg h2, if_neg h3, if_pos h4]
    rw [e]; decide
  by_cases h5 : of = ⟨[76, 97, 110, 103, 117, 97, 103, 101, 80, 114, 101, 102].toArray⟩
  · have e : propsF of = T_LanguagePref := by unfold propsF; rw [if_neg h0, if_neg h1, if_neg h2, if_neg h3, if_neg h4, if_pos h5]
    rw [e]; decide
  by_cases h6 : of = ⟨[76, 105, 110, 107].toArray⟩
  · have e : propsF of = T_Link := by unfold propsF; rw [if_neg h0, if_neg h1, if_neg h2, if_neg h3, if_neg h4, if_neg h5, if_pos h6]
    rw [e]; decide
  by_cases h7 : of = ⟨[77, 101, 100, 105, 97].toArray⟩
  · have e : propsF of = T_Media := by unfold propsF; rw [if_neg h0, if_neg h1, if_neg h2, if_neg h3, if_neg h4, if_neg h5, if_neg h6, if_pos h7]
    rw [e]; decide
  by_cases h8 : of = ⟨[78, 97, 109, 101].toArray⟩
  · have e : propsF of = T_Name := by unfold propsF; rw [if_neg h0, if_neg h1, if_neg h2, if_neg h3, if_neg h4, if_neg h5, if_neg h6, if_neg h7, if_pos h8]
    rw [e]; decide
  by_cases h9 : of = ⟨[78, 97, 109, 101, 67, 111, 109, 112, 111, 110, 101, 110, 116].toArray⟩
  · have e : propsF of = T_NameComponent := by unfold propsF; rw [if_neg h0, if_neg h1, if_neg h2, if_neg h3, if_neg h4, if_neg h5, if_neg h6, if_neg h7, if_neg h8, if_pos h9]
    rw [e]; decide
  by_cases h10 : of = ⟨[78, 105, 99, 107, 110, 97, 109, 101].toArray⟩
  · have e : propsF of = T_Nickname := by unfold propsF; rw [if_neg h0, if_neg h1, if_neg h2, if_neg h3, if_neg h4, if_neg h5, if_neg h6, if_neg h7, if_neg h8, if_neg h9, if_pos h10]
    rw [e]; decide
  by_cases h11 : of = ⟨[78, 111, 116, 101].toArray⟩
  · have e : propsF of = T_Note := by unfold propsF; rw [if_neg h0, if_neg h1, if_neg h2, if_neg h3, if_neg h4, if_neg h5, if_neg h6, if_neg h7, if_neg h8, if_neg h9, if_neg h10, if_pos h11]
    rw [e]; decide
  by_cases h12 : of = ⟨[79, 110, 108, 105, 110, 101, 83, 101, 114, 118, 105, 99, 101].toArray⟩
  · have e : propsF of = T_OnlineService := by unfold propsF; rw [if_neg h0, if_neg h1, if_neg h2, if_neg h3, if_neg h4, if_neg h5, if_neg h6, if_neg h7, if_neg h8, if_neg h9, if_neg h10, if_neg h11, if_pos h12]
    rw [e]; decide
  by_cases h13 : of = ⟨[79, 114, 103, 85, 110, 105, 116].toArray⟩
  · have e : propsF of = T_OrgUnit := by unfold propsF; rw [if_neg h0, if_neg h1, if_neg h2, if_neg h3, if_neg h4, if_neg h5, if_neg h6, if_neg h7, if_neg h8, if_neg h9, if_neg h10, if_neg h11, if_neg h12, if_pos h13]
    rw [e]; decide
  by_cases h14 : of = ⟨[79, 114, 103, 97, 110, 105, 122, 97, 116, 105, 111, 110].toArray⟩
  · have e : propsF of = T_Organization := by unfold propsF; rw [if_neg h0, if_neg h1, if_neg h2, if_neg h3, if_neg h4, if_neg h5, if_neg h6, if_neg h7, if_neg h8, if_neg h9, if_neg h10, if_neg h11, if_neg h12, if_neg h13, if_pos h14]
    rw [e]; decide
  by_cases h15 : of = ⟨[80, 97, 114, 116, 105, 97, 108, 68, 97, 116, 101].toArray⟩
  · have e : propsF of = T_PartialDate := by unfold propsF; rw [if_neg h0, if_neg h1, if_neg h2, if_neg h3, if_neg h4, if_neg h5, if_neg h6, if_neg h7, if_neg h8, if_neg h9, if_neg h10, if_neg h11, if_neg h12, if_neg h13, if_neg h14, if_pos h15]
    rw [e]; decide
  by_cases h16 : of = ⟨[80, 104, 111, 110, 101].toArray⟩
  · have e : propsF of = T_Phone := by unfold propsF; rw [if_neg h0, if_neg h1, if_neg h2, if_neg h3, if_neg h4, if_neg h5, if_neg h6, if_neg h7, if_neg h8, if_neg h9, if_neg h10, if_neg h11, if_neg h12, if_neg h13, if_neg h14, if_neg h15, if_pos h16]
    rw [e]; decide
  by_cases h17 : of = ⟨[82, 101, 108, 97, 116, 105, 111, 110].toArray⟩
  · have e : propsF of = T_Relation := by unfold propsF; rw [if_neg h0, if_neg h1, if_neg h2, if_neg h3, if_neg h4, if_neg h5, if_neg h6, if_neg h7, if_neg h8, if_neg h9, if_neg h10, if_neg h11, if_neg h12, if_neg h13, if_neg h14, if_neg h15, if_neg h16, if_pos h17]
    rw [e]; decide
  by_cases h18 : of = ⟨[84, 105, 109, 101, 115, 116, 97, 109, 112].toArray⟩
  · have e : propsF of = T_Timestamp := by unfold propsF; rw [if_neg h0, if_neg h1, if_neg h2, if_neg h3, if_neg h4, if_neg h5, if_neg h6, if_neg h7, if_neg h8, if_neg h9, if_neg h10, if_neg h11, if_neg h12, if_neg h13, if_neg h14, if_neg h15, if_neg h16, if_neg h17, if_pos h18]
    rw [e]; decide
  by_cases h19 : of = ⟨[84, 105, 116, 108, 101].toArray⟩
  · have e : propsF of = T_Title := by unfold propsF; rw [if_neg h0, if_neg h1, if_neg h2, if_neg h3, if_neg h4, if_neg h5, if_neg h6, if_neg h7, if_neg h8, if_neg h9, if_neg h10, if_neg h11, if_neg h12, if_neg h13, if_neg h14, if_neg h15, if_neg h16, if_neg h17, if_neg h18, if_pos h19]
    rw [e]; decide
  have e : propsF of = [] := by unfold propsF; rw [if_neg h0, if_neg h1, if_neg h2, if_neg h3, if_neg h4, if_neg h5, if_neg h6, if_neg h7, if_neg h8, if_neg h9, if_neg h10, if_neg h11, if_neg h12, if_neg h13, if_neg h14, if_neg h15, if_neg h16, if_neg h17, if_neg h18, if_neg h19]
  rw [e]; decide
set_option maxRecDepth 100000 in
set_option maxHeartbeats 8000000 in
theorem find_any (of name : ByteArray) (W : World) : Calls Tryd.prog 36 #[.string of, .string name] W (FindEnd W (findF (propsF of) name)) := by
  obtain ⟨t, ht⟩ : ∃ t, propsF of = t := ⟨_, rfl⟩
  obtain ⟨N, hN⟩ : ∃ N, t.length = N := ⟨_, rfl⟩
  have h99 : N ≤ 100 := by rw [← hN, ← ht]; exact props_len of
  have HP := Lib.hid (Props_any of)
  rw [ht, hN] at HP
  rw [ht]
  have HN := Lib.hid hN
  clear hN ht
  go_enter Tryd.func36, Tryd.ntmps36
  go_wp2_with fail
  refine (HP.out _).mono ?_
  rintro e w1 ⟨A1, c1, rfl, ho, hb⟩
  have Ho := Lib.hid ho
  have hz : W.heap.size < (W.alloc (.cells #[.string ⟨#[]⟩, .int .i64 0, .string ⟨#[]⟩, .bool false, .string ⟨#[]⟩] 41)).heap.size := by simp
  have hw1 : W.heap.size < w1.heap.size := Nat.lt_of_lt_of_le hz hb.size
  have B1 := Lib.hid (((Below.refl W.heap.size W).alloc (Nat.le_refl _) (.cells #[.string ⟨#[]⟩, .int .i64 0, .string ⟨#[]⟩, .bool false, .string ⟨#[]⟩] 41)).trans (hb.mono (Nat.le_of_lt hz)))
  have cc0 : w1.cell? ⟨W.heap.size, 0, none⟩ = some (.string ⟨#[]⟩) := (hb.cell (p := ⟨W.heap.size, 0, none⟩) hz).trans (by simp [World.cell?_alloc_new])
  have ff0 : w1.frozen? ⟨W.heap.size, 0, none⟩ = false := (hb.frozen (p := ⟨W.heap.size, 0, none⟩) hz).trans (by simp [go_sem])
  have cc1 : w1.cell? ⟨W.heap.size, 1, none⟩ = some (.int .i64 0) := (hb.cell (p := ⟨W.heap.size, 1, none⟩) hz).trans (by simp [World.cell?_alloc_new])
  have ff1 : w1.frozen? ⟨W.heap.size, 1, none⟩ = false := (hb.frozen (p := ⟨W.heap.size, 1, none⟩) hz).trans (by simp [go_sem])
  have cc2 : w1.cell? ⟨W.heap.size, 2, none⟩ = some (.string ⟨#[]⟩) := (hb.cell (p := ⟨W.heap.size, 2, none⟩) hz).trans (by simp [World.cell?_alloc_new])
  have ff2 : w1.frozen? ⟨W.heap.size, 2, none⟩ = false := (hb.frozen (p := ⟨W.heap.size, 2, none⟩) hz).trans (by simp [go_sem])
  have cc3 : w1.cell? ⟨W.heap.size, 3, none⟩ = some (.bool false) := (hb.cell (p := ⟨W.heap.size, 3, none⟩) hz).trans (by simp [World.cell?_alloc_new])
  have ff3 : w1.frozen? ⟨W.heap.size, 3, none⟩ = false := (hb.frozen (p := ⟨W.heap.size, 3, none⟩) hz).trans (by simp [go_sem])
  have cc4 : w1.cell? ⟨W.heap.size, 4, none⟩ = some (.string ⟨#[]⟩) := (hb.cell (p := ⟨W.heap.size, 4, none⟩) hz).trans (by simp [World.cell?_alloc_new])
  have ff4 : w1.frozen? ⟨W.heap.size, 4, none⟩ = false := (hb.frozen (p := ⟨W.heap.size, 4, none⟩) hz).trans (by simp [go_sem])
  have HC := Lib.hid (And.intro (And.intro cc0 (And.intro cc1 (And.intro cc2 (And.intro cc3 cc4)))) (And.intro ff0 (And.intro ff1 (And.intro ff2 (And.intro ff3 ff4)))))
  clear cc0 cc1 cc2 cc3 cc4 ff0 ff1 ff2 ff3 ff4 ho hb hz
  go_wp2_with fail
  go_loopw [11] (fun ti wr => ∃ i : Nat, i ≤ N ∧ ti = .int .i64 i ∧ Hid (findF t name = findF (t.drop i) name) ∧ Below w1.heap.size w1 wr) (fun ti _ => N - (intOf ti).toNat)
  case atStart => exact ⟨0, Nat.zero_le _, rfl, Lib.hid (by rw [List.drop_zero]), Below.refl _ _⟩
  case round =>
    obtain ⟨i, hi, rfl, Hf, hbw⟩ := hrel
    have Hbw := Lib.hid hbw
    have zb := hbw.size
    have hwr : W.heap.size < wr.heap.size := by omega
    have HBB := Lib.hid (B1.out.trans (hbw.mono (Nat.le_of_lt hw1)))
    obtain ⟨⟨k0, k1, k2, k3, k4⟩, l0, l1, l2, l3, l4⟩ := HC.out
    have y0 : wr.cell? ⟨W.heap.size, 0, none⟩ = some (.string ⟨#[]⟩) := (hbw.cell (p := ⟨W.heap.size, 0, none⟩) hw1).trans k0
    have z0 : wr.frozen? ⟨W.heap.size, 0, none⟩ = false := (hbw.frozen (p := ⟨W.heap.size, 0, none⟩) hw1).trans l0
    have y1 : wr.cell? ⟨W.heap.size, 1, none⟩ = some (.int .i64 0) := (hbw.cell (p := ⟨W.heap.size, 1, none⟩) hw1).trans k1
    have z1 : wr.frozen? ⟨W.heap.size, 1, none⟩ = false := (hbw.frozen (p := ⟨W.heap.size, 1, none⟩) hw1).trans l1
    have y2 : wr.cell? ⟨W.heap.size, 2, none⟩ = some (.string ⟨#[]⟩) := (hbw.cell (p := ⟨W.heap.size, 2, none⟩) hw1).trans k2
    have z2 : wr.frozen? ⟨W.heap.size, 2, none⟩ = false := (hbw.frozen (p := ⟨W.heap.size, 2, none⟩) hw1).trans l2
    have y3 : wr.cell? ⟨W.heap.size, 3, none⟩ = some (.bool false) := (hbw.cell (p := ⟨W.heap.size, 3, none⟩) hw1).trans k3
    have z3 : wr.frozen? ⟨W.heap.size, 3, none⟩ = false := (hbw.frozen (p := ⟨W.heap.size, 3, none⟩) hw1).trans l3
    have y4 : wr.cell? ⟨W.heap.size, 4, none⟩ = some (.string ⟨#[]⟩) := (hbw.cell (p := ⟨W.heap.size, 4, none⟩) hw1).trans k4
    have z4 : wr.frozen? ⟨W.heap.size, 4, none⟩ = false := (hbw.frozen (p := ⟨W.heap.size, 4, none⟩) hw1).trans l4
    clear k0 k1 k2 k3 k4 l0 l1 l2 l3 l4 hbw
    by_cases hlt : i < N
    · obtain ⟨g, rfl, _⟩ := own_some (by omega) Ho.out
      have hgl := own_lt Ho.out
      have hcell := own_cell Ho.out HN.out hlt
      have Hfd := Lib.hid (find_drop t i (by rw [HN.out]; exact hlt) name)
      have hgr : g < wr.heap.size := Nat.lt_of_lt_of_le hgl zb
      generalize t.getD i noP = p at hcell Hfd
      obtain ⟨pa, pb, pc, pq, pd⟩ := p
      have h0 : wr.cell? ⟨g, i * 5, none⟩ = some (.string pa) := (Hbw.out.cell (p := ⟨g, i * 5, none⟩) hgl).trans (hcell 0 _ rfl)
      have h1 : wr.cell? ⟨g, i * 5 + 1, none⟩ = some (.int .i64 pb) := (Hbw.out.cell (p := ⟨g, i * 5 + 1, none⟩) hgl).trans (hcell 1 _ rfl)
      have h2 : wr.cell? ⟨g, i * 5 + 2, none⟩ = some (.string pc) := (Hbw.out.cell (p := ⟨g, i * 5 + 2, none⟩) hgl).trans (hcell 2 _ rfl)
      have h3 : wr.cell? ⟨g, i * 5 + 3, none⟩ = some (.bool pq) := (Hbw.out.cell (p := ⟨g, i * 5 + 3, none⟩) hgl).trans (hcell 3 _ rfl)
      have h4 : wr.cell? ⟨g, i * 5 + 4, none⟩ = some (.string pd) := (Hbw.out.cell (p := ⟨g, i * 5 + 4, none⟩) hgl).trans (hcell 4 _ rfl)
      clear hcell
      by_cases hnm : pa = name
      · have e1 := str_eq hnm
        have HR : Hid (findF t name = ((pa, pb, pc, pq, pd), true)) := Lib.hid (by rw [Hf.out, Hfd.out, if_pos hnm])
        clear hnm Hfd
        go_wp2_with fail
        refine bodyPost_ret (v := .tuple #[.agg #[.string pa, .int .i64 pb, .string pc, .bool pq, .string pd], .bool true]) (by simp [results, Tryd.results36, go_sem, y0, y1, y2, y3, y4, z0, z1, z2, z3, z4, hwr]) rfl ?_
        unfold FindEnd
        rw [HR.out]
        exact ⟨rfl, (below_5 HBB.out (Nat.le_refl _) _ _ _ _ _).alloc (below_5 HBB.out (Nat.le_refl _) _ _ _ _ _).size _⟩
      · have e1 := str_ne hnm
        have Hf2 : Hid (findF t name = findF (t.drop (i + 1)) name) := Lib.hid (by rw [Hf.out, Hfd.out, if_neg hnm])
        clear hnm Hfd
        go_wp2_with fail
        go_roundw
        case rel => exact ⟨i + 1, by omega, by go_num, Hf2, Hbw.out.alloc zb _⟩
        case measure => simp [intOf]; omega
    · have HR : Hid (findF t name = (noP, false)) := Lib.hid (by rw [Hf.out, List.drop_of_length_le (by rw [HN.out]; omega)]; rfl)
      go_wp2_with fail
      refine bodyPost_ret (v := .tuple #[.agg #[.string ⟨#[]⟩, .int .i64 0, .string ⟨#[]⟩, .bool false, .string ⟨#[]⟩], .bool false]) (by simp [results, Tryd.results36, go_sem, y0, y1, y2, y3, y4, z0, z1, z2, z3, z4]) rfl ?_
      unfold FindEnd
      rw [HR.out]
      exact ⟨rfl, below_5 HBB.out (Nat.le_refl _) _ _ _ _ _⟩


end Go.Proofs.YtijpbfafkdpolaaDoor
