import Derived.Test.YtijpbfafkdpolaaDoorQ6
import Derived.Test.YtijpbfafkdpolaaDoorQ7
namespace Go.Proofs.YtijpbfafkdpolaaDoor
open Go.RowKit Go.Shelf

theorem text_is {x : ByteArray} {l : List UInt8} (h : x = ⟨l.toArray⟩) : x.toList = l := by rw [h, ByteArray.toList_eq]
theorem text_not {x : ByteArray} {l : List UInt8} (h : ¬ x = ⟨l.toArray⟩) : (x.toList == l) = false := by
  rw [beq_eq_false_iff_ne, ByteArray.toList_eq]
  intro e
  exact h (by rw [← e])
/-- the members of a type, as the program has them -/
def propsF (of : ByteArray) : List Prp :=
  if of = ⟨[67, 97, 114, 100].toArray⟩ then T_Card else
  if of = ⟨[65, 100, 100, 114, 101, 115, 115].toArray⟩ then T_Address else
  if of = ⟨[65, 100, 100, 114, 101, 115, 115, 67, 111, 109, 112, 111, 110, 101, 110, 116].toArray⟩ then T_AddressComponent else
  if of = ⟨[65, 110, 110, 105, 118, 101, 114, 115, 97, 114, 121].toArray⟩ then T_Anniversary else
  if of = ⟨[69, 109, 97, 105, 108, 65, 100, 100, 114, 101, 115, 115].toArray⟩ then T_EmailAddress else
  if of = ⟨[76, 97, 110, 103, 117, 97, 103, 101, 80, 114, 101, 102].toArray⟩ then T_LanguagePref else
  if of = ⟨[76, 105, 110, 107].toArray⟩ then T_Link else
  if of = ⟨[77, 101, 100, 105, 97].toArray⟩ then T_Media else
  if of = ⟨[78, 97, 109, 101].toArray⟩ then T_Name else
  if of = ⟨[78, 97, 109, 101, 67, 111, 109, 112, 111, 110, 101, 110, 116].toArray⟩ then T_NameComponent else
  if of = ⟨[78, 105, 99, 107, 110, 97, 109, 101].toArray⟩ then T_Nickname else
  if of = ⟨[78, 111, 116, 101].toArray⟩ then T_Note else
  if of = ⟨[79, 110, 108, 105, 110, 101, 83, 101, 114, 118, 105, 99, 101].toArray⟩ then T_OnlineService else
  if of = ⟨[79, 114, 103, 85, 110, 105, 116].toArray⟩ then T_OrgUnit else
  if of = ⟨[79, 114, 103, 97, 110, 105, 122, 97, 116, 105, 111, 110].toArray⟩ then T_Organization else
  if of = ⟨[80, 97, 114, 116, 105, 97, 108, 68, 97, 116, 101].toArray⟩ then T_PartialDate else
  if of = ⟨[80, 104, 111, 110, 101].toArray⟩ then T_Phone else
  if of = ⟨[82, 101, 108, 97, 116, 105, 111, 110].toArray⟩ then T_Relation else
  if of = ⟨[84, 105, 109, 101, 115, 116, 97, 109, 112].toArray⟩ then T_Timestamp else
  if of = ⟨[84, 105, 116, 108, 101].toArray⟩ then T_Title else
  []
set_option maxRecDepth 100000 in
set_option maxHeartbeats 8000000 in
theorem others_any (of : ByteArray) (h0 : ¬ of = ⟨[67, 97, 114, 100].toArray⟩) (h1 : ¬ of = ⟨[65, 100, 100, 114, 101, 115, 115].toArray⟩) (h2 : ¬ of = ⟨[65, 100, 100, 114, 101, 115, 115, 67, 111, 109, 112, 111, 110, 101, 110, 116].toArray⟩) (h3 : ¬ of = ⟨[65, 110, 110, 105, 118, 101, 114, 115, 97, 114, 121].toArray⟩) (h4 : ¬ of = ⟨[69, 109, 97, 105, 108, 65, 100, 100, 114, 101, 115, 115].toArray⟩) (h5 : ¬ of = ⟨[76, 97, 110, 103, 117, 97, 103, 101, 80, 114, 101, 102].toArray⟩) (h6 : ¬ of = ⟨[76, 105, 110, 107].toArray⟩) (h7 : ¬ of = ⟨[77, 101, 100, 105, 97].toArray⟩) (h8 : ¬ of = ⟨[78, 97, 109, 101].toArray⟩) (h9 : ¬ of = ⟨[78, 97, 109, 101, 67, 111, 109, 112, 111, 110, 101, 110, 116].toArray⟩) (h10 : ¬ of = ⟨[78, 105, 99, 107, 110, 97, 109, 101].toArray⟩) (h11 : ¬ of = ⟨[78, 111, 116, 101].toArray⟩) (h12 : ¬ of = ⟨[79, 110, 108, 105, 110, 101, 83, 101, 114, 118, 105, 99, 101].toArray⟩) (h13 : ¬ of = ⟨[79, 114, 103, 85, 110, 105, 116].toArray⟩) (W : World) : Calls Tryd.prog 44 #[.string of] W (PropsPost W.heap.size W (propsF of).length (propsF of)) := by
  by_cases h14 : of = ⟨[79, 114, 103, 97, 110, 105, 122, 97, 116, 105, 111, 110].toArray⟩
  · have e : propsF of = T_Organization := by unfold propsF; rw [if_neg h0, if_neg h1, if_neg h2, if_neg h3, if_neg h4, if_neg h5, if_neg h6, if_neg h7, if_neg h8, if_neg h9, if_neg h10, if_neg h11, if_neg h12, if_neg h13, if_pos h14]
    rw [e]
    exact at_Organization of (text_is h14) W
  by_cases h15 : of = ⟨[80, 97, 114, 116, 105, 97, 108, 68, 97, 116, 101].toArray⟩
  · have e : propsF of = T_PartialDate := by unfold propsF; rw [if_neg h0, if_neg h1, if_neg h2, if_neg h3, if_neg h4, if_neg h5, if_neg h6, if_neg h7, if_neg h8, if_neg h9, if_neg h10, if_neg h11, if_neg h12, if_neg h13, if_neg h14, if_pos h15]
    rw [e]
    exact at_PartialDate of (text_is h15) W
  by_cases h16 : of = ⟨[80, 104, 111, 110, 101].toArray⟩
  · have e : propsF of = T_Phone := by unfold propsF; rw [if_neg h0, if_neg h1, if_neg h2, if_neg h3, if_neg h4, if_neg h5, if_neg h6, if_neg h7, if_neg h8, if_neg h9, if_neg h10, if_neg h11, if_neg h12, if_neg h13, if_neg h14, if_neg h15, if_pos h16]
    rw [e]
    exact at_Phone of (text_is h16) W
  by_cases h17 : of = ⟨[82, 101, 108, 97, 116, 105, 111, 110].toArray⟩
  · have e : propsF of = T_Relation := by unfold propsF; rw [if_neg h0, if_neg h1, if_neg h2, if_neg h3, if_neg h4, if_neg h5, if_neg h6, if_neg h7, if_neg h8, if_neg h9, if_neg h10, if_neg h11, if_neg h12, if_neg h13, if_neg h14, if_neg h15, if_neg h16, if_pos h17]
    rw [e]
    exact at_Relation of (text_is h17) W
  by_cases h18 : of = ⟨[84, 105, 109, 101, 115, 116, 97, 109, 112].toArray⟩
  · have e : propsF of = T_Timestamp := by unfold propsF; rw [if_neg h0, if_neg h1, if_neg h2, if_neg h3, if_neg h4, if_neg h5, if_neg h6, if_neg h7, if_neg h8, if_neg h9, if_neg h10, if_neg h11, if_neg h12, if_neg h13, if_neg h14, if_neg h15, if_neg h16, if_neg h17, if_pos h18]
    rw [e]
    exact at_Timestamp of (text_is h18) W
  by_cases h19 : of = ⟨[84, 105, 116, 108, 101].toArray⟩
  · have e : propsF of = T_Title := by unfold propsF; rw [if_neg h0, if_neg h1, if_neg h2, if_neg h3, if_neg h4, if_neg h5, if_neg h6, if_neg h7, if_neg h8, if_neg h9, if_neg h10, if_neg h11, if_neg h12, if_neg h13, if_neg h14, if_neg h15, if_neg h16, if_neg h17, if_neg h18, if_pos h19]
    rw [e]
    exact at_Title of (text_is h19) W
  have e : propsF of = [] := by unfold propsF; rw [if_neg h0, if_neg h1, if_neg h2, if_neg h3, if_neg h4, if_neg h5, if_neg h6, if_neg h7, if_neg h8, if_neg h9, if_neg h10, if_neg h11, if_neg h12, if_neg h13, if_neg h14, if_neg h15, if_neg h16, if_neg h17, if_neg h18, if_neg h19]
  rw [e]
  have e14 := text_not h14
  have e15 := text_not h15
  have e16 := text_not h16
  have e17 := text_not h17
  have e18 := text_not h18
  have e19 := text_not h19
  clear e h0 h1 h2 h3 h4 h5 h6 h7 h8 h9 h10 h11 h12 h13 h14 h15 h16 h17 h18 h19
  go_enter Tryd.func44, Tryd.ntmps44
  go_wp2_with fail
  go_ret
  exact ⟨_, _, rfl, World.ownsRow_nil _ _ _ _, Below.refl _ _⟩
set_option maxRecDepth 100000 in
set_option maxHeartbeats 8000000 in
theorem Props_any (of : ByteArray) (W : World) : Calls Tryd.prog 22 #[.string of] W (PropsPost W.heap.size W (propsF of).length (propsF of)) := by
  by_cases h0 : of = ⟨[67, 97, 114, 100].toArray⟩
  · have e : propsF of = T_Card := by unfold propsF; rw [if_pos h0]
    rw [e]
    exact at_Card of (text_is h0) W
  by_cases h1 : of = ⟨[65, 100, 100, 114, 101, 115, 115].toArray⟩
  · have e : propsF of = T_Address := by unfold propsF; rw [if_neg h0, if_pos h1]
    rw [e]
    exact at_Address of (text_is h1) W
  by_cases h2 : of = ⟨[65, 100, 100, 114, 101, 115, 115, 67, 111, 109, 112, 111, 110, 101, 110, 116].toArray⟩
  · have e : propsF of = T_AddressComponent := by unfold propsF; rw [if_neg h0, if_neg h1, if_pos h2]
    rw [e]
    exact at_AddressComponent of (text_is h2) W
  by_cases h3 : of = ⟨[65, 110, 110, 105, 118, 101, 114, 115, 97, 114, 121].toArray⟩
  · have e : propsF of = T_Anniversary := by unfold propsF; rw [if_neg h0, if_neg h1, if_neg h2, if_pos h3]
    rw [e]
    exact at_Anniversary of (text_is h3) W
  by_cases h4 : of = ⟨[69, 109, 97, 105, 108, 65, 100, 100, 114, 101, 115, 115].toArray⟩
  · have e : propsF of = T_EmailAddress := by unfold propsF; rw [if_neg h0, if_neg h1, if_neg h2, if_neg h3, if_pos h4]
    rw [e]
    exact at_EmailAddress of (text_is h4) W
  by_cases h5 : of = ⟨[76, 97, 110, 103, 117, 97, 103, 101, 80, 114, 101, 102].toArray⟩
  · have e : propsF of = T_LanguagePref := by unfold propsF; rw [if_neg h0, if_neg h1, if_neg h2, if_neg h3, if_neg h4, if_pos h5]
    rw [e]
    exact at_LanguagePref of (text_is h5) W
  by_cases h6 : of = ⟨[76, 105, 110, 107].toArray⟩
  · have e : propsF of = T_Link := by unfold propsF; rw [if_neg h0, if_neg h1, if_neg h2, if_neg h3, if_neg h4, if_neg h5, if_pos h6]
    rw [e]
    exact at_Link of (text_is h6) W
  by_cases h7 : of = ⟨[77, 101, 100, 105, 97].toArray⟩
  · have e : propsF of = T_Media := by unfold propsF; rw [if_neg h0, if_neg h1, if_neg h2, if_neg h3, if_neg h4, if_neg h5, if_neg h6, if_pos h7]
    rw [e]
    exact at_Media of (text_is h7) W
  by_cases h8 : of = ⟨[78, 97, 109, 101].toArray⟩
  · have e : propsF of = T_Name := by unfold propsF; rw [if_neg h0, if_neg h1, if_neg h2, if_neg h3, if_neg h4, if_neg h5, if_neg h6, if_neg h7, if_pos h8]
    rw [e]
    exact at_Name of (text_is h8) W
  by_cases h9 : of = ⟨[78, 97, 109, 101, 67, 111, 109, 112, 111, 110, 101, 110, 116].toArray⟩
  · have e : propsF of = T_NameComponent := by unfold propsF; rw [if_neg h0, if_neg h1, if_neg h2, if_neg h3, if_neg h4, if_neg h5, if_neg h6, if_neg h7, if_neg h8, if_pos h9]
    rw [e]
    exact at_NameComponent of (text_is h9) W
  by_cases h10 : of = ⟨[78, 105, 99, 107, 110, 97, 109, 101].toArray⟩
  · have e : propsF of = T_Nickname := by unfold propsF; rw [if_neg h0, if_neg h1, if_neg h2, if_neg h3, if_neg h4, if_neg h5, if_neg h6, if_neg h7, if_neg h8, if_neg h9, if_pos h10]
    rw [e]
    exact at_Nickname of (text_is h10) W
  by_cases h11 : of = ⟨[78, 111, 116, 101].toArray⟩
  · have e : propsF of = T_Note := by unfold propsF; rw [if_neg h0, if_neg h1, if_neg h2, if_neg h3, if_neg h4, if_neg h5, if_neg h6, if_neg h7, if_neg h8, if_neg h9, if_neg h10, if_pos h11]
    rw [e]
    exact at_Note of (text_is h11) W
  by_cases h12 : of = ⟨[79, 110, 108, 105, 110, 101, 83, 101, 114, 118, 105, 99, 101].toArray⟩
  · have e : propsF of = T_OnlineService := by unfold propsF; rw [if_neg h0, if_neg h1, if_neg h2, if_neg h3, if_neg h4, if_neg h5, if_neg h6, if_neg h7, if_neg h8, if_neg h9, if_neg h10, if_neg h11, if_pos h12]
    rw [e]
    exact at_OnlineService of (text_is h12) W
  by_cases h13 : of = ⟨[79, 114, 103, 85, 110, 105, 116].toArray⟩
  · have e : propsF of = T_OrgUnit := by unfold propsF; rw [if_neg h0, if_neg h1, if_neg h2, if_neg h3, if_neg h4, if_neg h5, if_neg h6, if_neg h7, if_neg h8, if_neg h9, if_neg h10, if_neg h11, if_neg h12, if_pos h13]
    rw [e]
    exact at_OrgUnit of (text_is h13) W
  have HO := Lib.hid (others_any of h0 h1 h2 h3 h4 h5 h6 h7 h8 h9 h10 h11 h12 h13 W)
  have e0 := text_not h0
  have e1 := text_not h1
  have e2 := text_not h2
  have e3 := text_not h3
  have e4 := text_not h4
  have e5 := text_not h5
  have e6 := text_not h6
  have e7 := text_not h7
  have e8 := text_not h8
  have e9 := text_not h9
  have e10 := text_not h10
  have e11 := text_not h11
  have e12 := text_not h12
  have e13 := text_not h13
  clear h0 h1 h2 h3 h4 h5 h6 h7 h8 h9 h10 h11 h12 h13
  generalize propsF of = T at *
  generalize T.length = N at *
  go_enter Tryd.func22, Tryd.ntmps22
  go_wp2_with fail
  refine HO.out.mono ?_
  rintro e w1 ⟨A1, c1, rfl, ho, hb⟩
  have Ho := Lib.hid ho
  have Hb := Lib.hid hb
  clear ho hb
  go_wp2_with fail
  go_ret
  exact ⟨_, _, rfl, Ho.out, Hb.out⟩
end Go.Proofs.YtijpbfafkdpolaaDoor
