import Derived.Test.YtijpbfafkdpolaaQ11
import Derived.Test.YtijpbfafkdpolaaQ8
namespace Go.Proofs.Ytijpbfafkdpolaa
open Go.RowKit Go.Shelf

theorem ret_str {a b : ByteArray} (h : a = b) : Ending.returned (.string a) = .returned (.string b) := by rw [h]
theorem mem_all {l : List ByteArray} (h : (l.all fun u => fineP u) = true) : ∀ u ∈ l, fineP u = true := List.all_eq_true.1 h
def L_Card : ByteArray := ⟨[97, 100, 100, 114, 101, 115, 115, 101, 115, 32, 49, 52, 32, 65, 100, 100, 114, 101, 115, 115, 59, 97, 110, 110, 105, 118, 101, 114, 115, 97, 114, 105, 101, 115, 32, 49, 52, 32, 65, 110, 110, 105, 118, 101, 114, 115, 97, 114, 121, 59, 99, 114, 101, 97, 116, 101, 100, 32, 55, 59, 101, 109, 97, 105, 108, 115, 32, 49, 52, 32, 69, 109, 97, 105, 108, 65, 100, 100, 114, 101, 115, 115, 59, 107, 101, 121, 119, 111, 114, 100, 115, 32, 49, 54, 59, 107, 105, 110, 100, 32, 49, 49, 32, 97, 112, 112, 108, 105, 99, 97, 116, 105, 111, 110, 32, 100, 101, 118, 105, 99, 101, 32, 103, 114, 111, 117, 112, 32, 105, 110, 100, 105, 118, 105, 100, 117, 97, 108, 32, 108, 111, 99, 97, 116, 105, 111, 110, 32, 111, 114, 103, 32, 61, 32, 105, 110, 100, 105, 118, 105, 100, 117, 97, 108, 59, 108, 97, 110, 103, 117, 97, 103, 101, 32, 49, 48, 59, 108, 105, 110, 107, 115, 32, 49, 52, 32, 76, 105, 110, 107, 59, 109, 101, 100, 105, 97, 32, 49, 52, 32, 77, 101, 100, 105, 97, 59, 109, 101, 109, 98, 101, 114, 115, 32, 49, 54, 59, 110, 97, 109, 101, 32, 49, 50, 32, 78, 97, 109, 101, 59, 110, 105, 99, 107, 110, 97, 109, 101, 115, 32, 49, 52, 32, 78, 105, 99, 107, 110, 97, 109, 101, 59, 110, 111, 116, 101, 115, 32, 49, 52, 32, 78, 111, 116, 101, 59, 111, 110, 108, 105, 110, 101, 83, 101, 114, 118, 105, 99, 101, 115, 32, 49, 52, 32, 79, 110, 108, 105, 110, 101, 83, 101, 114, 118, 105, 99, 101, 59, 111, 114, 103, 97, 110, 105, 122, 97, 116, 105, 111, 110, 115, 32, 49, 52, 32, 79, 114, 103, 97, 110, 105, 122, 97, 116, 105, 111, 110, 59, 112, 104, 111, 110, 101, 115, 32, 49, 52, 32, 80, 104, 111, 110, 101, 59, 112, 114, 101, 102, 101, 114, 114, 101, 100, 76, 97, 110, 103, 117, 97, 103, 101, 115, 32, 49, 52, 32, 76, 97, 110, 103, 117, 97, 103, 101, 80, 114, 101, 102, 59, 112, 114, 111, 100, 73, 100, 32, 49, 59, 114, 101, 108, 97, 116, 101, 100, 84, 111, 32, 49, 53, 32, 82, 101, 108, 97, 116, 105, 111, 110, 59, 116, 105, 116, 108, 101, 115, 32, 49, 52, 32, 84, 105, 116, 108, 101, 59, 117, 105, 100, 32, 50, 32, 33, 59, 117, 112, 100, 97, 116, 101, 100, 32, 55, 59, 118, 101, 114, 115, 105, 111, 110, 32, 49, 49, 32, 49, 46, 48, 32, 33].toArray⟩
def L_Address : ByteArray := ⟨[99, 111, 109, 112, 111, 110, 101, 110, 116, 115, 32, 49, 51, 32, 65, 100, 100, 114, 101, 115, 115, 67, 111, 109, 112, 111, 110, 101, 110, 116, 59, 99, 111, 110, 116, 101, 120, 116, 115, 32, 49, 55, 32, 98, 105, 108, 108, 105, 110, 103, 32, 100, 101, 108, 105, 118, 101, 114, 121, 32, 112, 114, 105, 118, 97, 116, 101, 32, 119, 111, 114, 107, 59, 99, 111, 111, 114, 100, 105, 110, 97, 116, 101, 115, 32, 56, 59, 99, 111, 117, 110, 116, 114, 121, 67, 111, 100, 101, 32, 49, 59, 100, 101, 102, 97, 117, 108, 116, 83, 101, 112, 97, 114, 97, 116, 111, 114, 32, 49, 59, 102, 117, 108, 108, 32, 49, 59, 105, 115, 79, 114, 100, 101, 114, 101, 100, 32, 51, 32, 61, 32, 102, 97, 108, 115, 101, 59, 112, 114, 101, 102, 32, 53, 59, 116, 105, 109, 101, 90, 111, 110, 101, 32, 49].toArray⟩
def L_AddressComponent : ByteArray := ⟨[107, 105, 110, 100, 32, 49, 49, 32, 97, 112, 97, 114, 116, 109, 101, 110, 116, 32, 98, 108, 111, 99, 107, 32, 98, 117, 105, 108, 100, 105, 110, 103, 32, 99, 111, 117, 110, 116, 114, 121, 32, 100, 105, 114, 101, 99, 116, 105, 111, 110, 32, 100, 105, 115, 116, 114, 105, 99, 116, 32, 102, 108, 111, 111, 114, 32, 108, 97, 110, 100, 109, 97, 114, 107, 32, 108, 111, 99, 97, 108, 105, 116, 121, 32, 110, 97, 109, 101, 32, 110, 117, 109, 98, 101, 114, 32, 112, 111, 115, 116, 79, 102, 102, 105, 99, 101, 66, 111, 120, 32, 112, 111, 115, 116, 99, 111, 100, 101, 32, 114, 101, 103, 105, 111, 110, 32, 114, 111, 111, 109, 32, 115, 101, 112, 97, 114, 97, 116, 111, 114, 32, 115, 117, 98, 100, 105, 115, 116, 114, 105, 99, 116, 32, 33, 59, 118, 97, 108, 117, 101, 32, 49, 32, 33].toArray⟩
def L_Anniversary : ByteArray := ⟨[100, 97, 116, 101, 32, 49, 56, 32, 33, 59, 107, 105, 110, 100, 32, 49, 49, 32, 98, 105, 114, 116, 104, 32, 100, 101, 97, 116, 104, 32, 119, 101, 100, 100, 105, 110, 103, 32, 33].toArray⟩
def L_EmailAddress : ByteArray := ⟨[97, 100, 100, 114, 101, 115, 115, 32, 49, 32, 33, 59, 99, 111, 110, 116, 101, 120, 116, 115, 32, 49, 55, 32, 112, 114, 105, 118, 97, 116, 101, 32, 119, 111, 114, 107, 59, 108, 97, 98, 101, 108, 32, 49, 59, 112, 114, 101, 102, 32, 53].toArray⟩
def L_LanguagePref : ByteArray := ⟨[99, 111, 110, 116, 101, 120, 116, 115, 32, 49, 55, 32, 112, 114, 105, 118, 97, 116, 101, 32, 119, 111, 114, 107, 59, 108, 97, 110, 103, 117, 97, 103, 101, 32, 49, 48, 32, 33, 59, 112, 114, 101, 102, 32, 53].toArray⟩
def L_Link : ByteArray := ⟨[99, 111, 110, 116, 101, 120, 116, 115, 32, 49, 55, 32, 112, 114, 105, 118, 97, 116, 101, 32, 119, 111, 114, 107, 59, 107, 105, 110, 100, 32, 49, 49, 32, 99, 111, 110, 116, 97, 99, 116, 59, 108, 97, 98, 101, 108, 32, 49, 59, 109, 101, 100, 105, 97, 84, 121, 112, 101, 32, 57, 59, 112, 114, 101, 102, 32, 53, 59, 117, 114, 105, 32, 56, 32, 33].toArray⟩
def L_Media : ByteArray := ⟨[99, 111, 110, 116, 101, 120, 116, 115, 32, 49, 55, 32, 112, 114, 105, 118, 97, 116, 101, 32, 119, 111, 114, 107, 59, 107, 105, 110, 100, 32, 49, 49, 32, 108, 111, 103, 111, 32, 112, 104, 111, 116, 111, 32, 115, 111, 117, 110, 100, 32, 33, 59, 108, 97, 98, 101, 108, 32, 49, 59, 109, 101, 100, 105, 97, 84, 121, 112, 101, 32, 57, 59, 112, 114, 101, 102, 32, 53, 59, 117, 114, 105, 32, 56, 32, 33].toArray⟩
def L_Name : ByteArray := ⟨[99, 111, 109, 112, 111, 110, 101, 110, 116, 115, 32, 49, 51, 32, 78, 97, 109, 101, 67, 111, 109, 112, 111, 110, 101, 110, 116, 59, 100, 101, 102, 97, 117, 108, 116, 83, 101, 112, 97, 114, 97, 116, 111, 114, 32, 49, 59, 102, 117, 108, 108, 32, 49, 59, 105, 115, 79, 114, 100, 101, 114, 101, 100, 32, 51, 32, 61, 32, 102, 97, 108, 115, 101].toArray⟩
def L_NameComponent : ByteArray := ⟨[107, 105, 110, 100, 32, 49, 49, 32, 99, 114, 101, 100, 101, 110, 116, 105, 97, 108, 32, 103, 101, 110, 101, 114, 97, 116, 105, 111, 110, 32, 103, 105, 118, 101, 110, 32, 103, 105, 118, 101, 110, 50, 32, 115, 101, 112, 97, 114, 97, 116, 111, 114, 32, 115, 117, 114, 110, 97, 109, 101, 32, 115, 117, 114, 110, 97, 109, 101, 50, 32, 116, 105, 116, 108, 101, 32, 33, 59, 118, 97, 108, 117, 101, 32, 49, 32, 33].toArray⟩
def L_Nickname : ByteArray := ⟨[99, 111, 110, 116, 101, 120, 116, 115, 32, 49, 55, 32, 112, 114, 105, 118, 97, 116, 101, 32, 119, 111, 114, 107, 59, 110, 97, 109, 101, 32, 49, 32, 33, 59, 112, 114, 101, 102, 32, 53].toArray⟩
def L_Note : ByteArray := ⟨[99, 114, 101, 97, 116, 101, 100, 32, 55, 59, 110, 111, 116, 101, 32, 49, 32, 33].toArray⟩
def L_OnlineService : ByteArray := ⟨[99, 111, 110, 116, 101, 120, 116, 115, 32, 49, 55, 32, 112, 114, 105, 118, 97, 116, 101, 32, 119, 111, 114, 107, 59, 108, 97, 98, 101, 108, 32, 49, 59, 112, 114, 101, 102, 32, 53, 59, 115, 101, 114, 118, 105, 99, 101, 32, 49, 59, 117, 114, 105, 32, 56, 59, 117, 115, 101, 114, 32, 49].toArray⟩
def L_OrgUnit : ByteArray := ⟨[110, 97, 109, 101, 32, 49, 32, 33, 59, 115, 111, 114, 116, 65, 115, 32, 49].toArray⟩
def L_Organization : ByteArray := ⟨[99, 111, 110, 116, 101, 120, 116, 115, 32, 49, 55, 32, 112, 114, 105, 118, 97, 116, 101, 32, 119, 111, 114, 107, 59, 110, 97, 109, 101, 32, 49, 59, 115, 111, 114, 116, 65, 115, 32, 49, 59, 117, 110, 105, 116, 115, 32, 49, 51, 32, 79, 114, 103, 85, 110, 105, 116].toArray⟩
def L_PartialDate : ByteArray := ⟨[100, 97, 121, 32, 52, 59, 109, 111, 110, 116, 104, 32, 52, 59, 121, 101, 97, 114, 32, 52].toArray⟩
def L_Phone : ByteArray := ⟨[99, 111, 110, 116, 101, 120, 116, 115, 32, 49, 55, 32, 112, 114, 105, 118, 97, 116, 101, 32, 119, 111, 114, 107, 59, 102, 101, 97, 116, 117, 114, 101, 115, 32, 49, 55, 32, 102, 97, 120, 32, 109, 97, 105, 110, 45, 110, 117, 109, 98, 101, 114, 32, 109, 111, 98, 105, 108, 101, 32, 112, 97, 103, 101, 114, 32, 116, 101, 120, 116, 32, 116, 101, 120, 116, 112, 104, 111, 110, 101, 32, 118, 105, 100, 101, 111, 32, 118, 111, 105, 99, 101, 59, 108, 97, 98, 101, 108, 32, 49, 59, 110, 117, 109, 98, 101, 114, 32, 49, 32, 33, 59, 112, 114, 101, 102, 32, 53].toArray⟩
def L_Relation : ByteArray := ⟨[114, 101, 108, 97, 116, 105, 111, 110, 32, 49, 55, 32, 97, 99, 113, 117, 97, 105, 110, 116, 97, 110, 99, 101, 32, 97, 103, 101, 110, 116, 32, 99, 104, 105, 108, 100, 32, 99, 111, 45, 114, 101, 115, 105, 100, 101, 110, 116, 32, 99, 111, 45, 119, 111, 114, 107, 101, 114, 32, 99, 111, 108, 108, 101, 97, 103, 117, 101, 32, 99, 111, 110, 116, 97, 99, 116, 32, 99, 114, 117, 115, 104, 32, 100, 97, 116, 101, 32, 101, 109, 101, 114, 103, 101, 110, 99, 121, 32, 102, 114, 105, 101, 110, 100, 32, 107, 105, 110, 32, 109, 101, 32, 109, 101, 116, 32, 109, 117, 115, 101, 32, 110, 101, 105, 103, 104, 98, 111, 114, 32, 112, 97, 114, 101, 110, 116, 32, 115, 105, 98, 108, 105, 110, 103, 32, 115, 112, 111, 117, 115, 101, 32, 115, 119, 101, 101, 116, 104, 101, 97, 114, 116].toArray⟩
def L_Timestamp : ByteArray := ⟨[117, 116, 99, 32, 55, 32, 33].toArray⟩
def L_Title : ByteArray := ⟨[107, 105, 110, 100, 32, 49, 49, 32, 114, 111, 108, 101, 32, 116, 105, 116, 108, 101, 32, 61, 32, 116, 105, 116, 108, 101, 59, 110, 97, 109, 101, 32, 49, 32, 33, 59, 111, 114, 103, 97, 110, 105, 122, 97, 116, 105, 111, 110, 73, 100, 32, 54].toArray⟩
set_option maxRecDepth 100000 in
set_option maxHeartbeats 8000000 in
theorem tab_Card (of : ByteArray) (hof : of.toList = [67, 97, 114, 100]) (W : World) : Calls Try.prog 22 #[.string of] W fun e w' => e = .returned (.string L_Card) ∧ W = w' := by
  have e0 : (of.toList == [67, 97, 114, 100]) = true := by rw [hof]; decide
  clear hof
  go_enter Try.func22, Try.ntmps22
  go_wp2_with fail
  go_ret
  exact ⟨ret_str (by decide +kernel), rfl⟩
set_option maxRecDepth 100000 in
set_option maxHeartbeats 8000000 in
theorem tab_Address (of : ByteArray) (hof : of.toList = [65, 100, 100, 114, 101, 115, 115]) (W : World) : Calls Try.prog 22 #[.string of] W fun e w' => e = .returned (.string L_Address) ∧ W = w' := by
  have e0 : (of.toList == [67, 97, 114, 100]) = false := by rw [hof]; decide
  have e1 : (of.toList == [65, 100, 100, 114, 101, 115, 115]) = true := by rw [hof]; decide
  clear hof
  go_enter Try.func22, Try.ntmps22
  go_wp2_with fail
  go_ret
  exact ⟨ret_str (by decide +kernel), rfl⟩
set_option maxRecDepth 100000 in
set_option maxHeartbeats 8000000 in
theorem tab_AddressComponent (of : ByteArray) (hof : of.toList = [65, 100, 100, 114, 101, 115, 115, 67, 111, 109, 112, 111, 110, 101, 110, 116]) (W : World) : Calls Try.prog 22 #[.string of] W fun e w' => e = .returned (.string L_AddressComponent) ∧ W = w' := by
  have e0 : (of.toList == [67, 97, 114, 100]) = false := by rw [hof]; decide
  have e1 : (of.toList == [65, 100, 100, 114, 101, 115, 115]) = false := by rw [hof]; decide
  have e2 : (of.toList == [65, 100, 100, 114, 101, 115, 115, 67, 111, 109, 112, 111, 110, 101, 110, 116]) = true := by rw [hof]; decide
  clear hof
  go_enter Try.func22, Try.ntmps22
  go_wp2_with fail
  go_ret
  exact ⟨ret_str (by decide +kernel), rfl⟩
set_option maxRecDepth 100000 in
set_option maxHeartbeats 8000000 in
theorem tab_Anniversary (of : ByteArray) (hof : of.toList = [65, 110, 110, 105, 118, 101, 114, 115, 97, 114, 121]) (W : World) : Calls Try.prog 22 #[.string of] W fun e w' => e = .returned (.string L_Anniversary) ∧ W = w' := by
  have e0 : (of.toList == [67, 97, 114, 100]) = false := by rw [hof]; decide
  have e1 : (of.toList == [65, 100, 100, 114, 101, 115, 115]) = false := by rw [hof]; decide
  have e2 : (of.toList == [65, 100, 100, 114, 101, 115, 115, 67, 111, 109, 112, 111, 110, 101, 110, 116]) = false := by rw [hof]; decide
  have e3 : (of.toList == [65, 110, 110, 105, 118, 101, 114, 115, 97, 114, 121]) = true := by rw [hof]; decide
  clear hof
  go_enter Try.func22, Try.ntmps22
  go_wp2_with fail
  go_ret
  exact ⟨ret_str (by decide +kernel), rfl⟩
set_option maxRecDepth 100000 in
set_option maxHeartbeats 8000000 in
theorem tab_EmailAddress (of : ByteArray) (hof : of.toList = [69, 109, 97, 105, 108, 65, 100, 100, 114, 101, 115, 115]) (W : World) : Calls Try.prog 22 #[.string of] W fun e w' => e = .returned (.string L_EmailAddress) ∧ W = w' := by
  have e0 : (of.toList == [67, 97, 114, 100]) = false := by rw [hof]; decide
  have e1 : (of.toList == [65, 100, 100, 114, 101, 115, 115]) = false := by rw [hof]; decide
  have e2 : (of.toList == [65, 100, 100, 114, 101, 115, 115, 67, 111, 109, 112, 111, 110, 101, 110, 116]) = false := by rw [hof]; decide
  have e3 : (of.toList == [65, 110, 110, 105, 118, 101, 114, 115, 97, 114, 121]) = false := by rw [hof]; decide
  have e4 : (of.toList == [69, 109, 97, 105, 108, 65, 100, 100, 114, 101, 115, 115]) = true := by rw [hof]; decide
  clear hof
  go_enter Try.func22, Try.ntmps22
  go_wp2_with fail
  go_ret
  exact ⟨ret_str (by decide +kernel), rfl⟩
set_option maxRecDepth 100000 in
set_option maxHeartbeats 8000000 in
theorem tab_LanguagePref (of : ByteArray) (hof : of.toList = [76, 97, 110, 103, 117, 97, 103, 101, 80, 114, 101, 102]) (W : World) : Calls Try.prog 22 #[.string of] W fun e w' => e = .returned (.string L_LanguagePref) ∧ W = w' := by
  have e0 : (of.toList == [67, 97, 114, 100]) = false := by rw [hof]; decide
  have e1 : (of.toList == [65, 100, 100, 114, 101, 115, 115]) = false := by rw [hof]; decide
  have e2 : (of.toList == [65, 100, 100, 114, 101, 115, 115, 67, 111, 109, 112, 111, 110, 101, 110, 116]) = false := by rw [hof]; decide
  have e3 : (of.toList == [65, 110, 110, 105, 118, 101, 114, 115, 97, 114, 121]) = false := by rw [hof]; decide
  have e4 : (of.toList == [69, 109, 97, 105, 108, 65, 100, 100, 114, 101, 115, 115]) = false := by rw [hof]; decide
  have e5 : (of.toList == [76, 97, 110, 103, 117, 97, 103, 101, 80, 114, 101, 102]) = true := by rw [hof]; decide
  clear hof
  go_enter Try.func22, Try.ntmps22
  go_wp2_with fail
  go_ret
  exact ⟨ret_str (by decide +kernel), rfl⟩
set_option maxRecDepth 100000 in
set_option maxHeartbeats 8000000 in
theorem tab_Link (of : ByteArray) (hof : of.toList = [76, 105, 110, 107]) (W : World) : Calls Try.prog 22 #[.string of] W fun e w' => e = .returned (.string L_Link) ∧ W = w' := by
  have e0 : (of.toList == [67, 97, 114, 100]) = false := by rw [hof]; decide
  have e1 : (of.toList == [65, 100, 100, 114, 101, 115, 115]) = false := by rw [hof]; decide
  have e2 : (of.toList == [65, 100, 100, 114, 101, 115, 115, 67, 111, 109, 112, 111, 110, 101, 110, 116]) = false := by rw [hof]; decide
  have e3 : (of.toList == [65, 110, 110, 105, 118, 101, 114, 115, 97, 114, 121]) = false := by rw [hof]; decide
  have e4 : (of.toList == [69, 109, 97, 105, 108, 65, 100, 100, 114, 101, 115, 115]) = false := by rw [hof]; decide
  have e5 : (of.toList == [76, 97, 110, 103, 117, 97, 103, 101, 80, 114, 101, 102]) = false := by rw [hof]; decide
  have e6 : (of.toList == [76, 105, 110, 107]) = true := by rw [hof]; decide
  clear hof
  go_enter Try.func22, Try.ntmps22
  go_wp2_with fail
  go_ret
  exact ⟨ret_str (by decide +kernel), rfl⟩
set_option maxRecDepth 100000 in
set_option maxHeartbeats 8000000 in
theorem tab_Media (of : ByteArray) (hof : of.toList = [77, 101, 100, 105, 97]) (W : World) : Calls Try.prog 22 #[.string of] W fun e w' => e = .returned (.string L_Media) ∧ W = w' := by
  have e0 : (of.toList == [67, 97, 114, 100]) = false := by rw [hof]; decide
  have e1 : (of.toList == [65, 100, 100, 114, 101, 115, 115]) = false := by rw [hof]; decide
  have e2 : (of.toList == [65, 100, 100, 114, 101, 115, 115, 67, 111, 109, 112, 111, 110, 101, 110, 116]) = false := by rw [hof]; decide
  have e3 : (of.toList == [65, 110, 110, 105, 118, 101, 114, 115, 97, 114, 121]) = false := by rw [hof]; decide
  have e4 : (of.toList == [69, 109, 97, 105, 108, 65, 100, 100, 114, 101, 115, 115]) = false := by rw [hof]; decide
  have e5 : (of.toList == [76, 97, 110, 103, 117, 97, 103, 101, 80, 114, 101, 102]) = false := by rw [hof]; decide
  have e6 : (of.toList == [76, 105, 110, 107]) = false := by rw [hof]; decide
  have e7 : (of.toList == [77, 101, 100, 105, 97]) = true := by rw [hof]; decide
  clear hof
  go_enter Try.func22, Try.ntmps22
  go_wp2_with fail
  go_ret
  exact ⟨ret_str (by decide +kernel), rfl⟩
set_option maxRecDepth 100000 in
set_option maxHeartbeats 8000000 in
theorem tab_Name (of : ByteArray) (hof : of.toList = [78, 97, 109, 101]) (W : World) : Calls Try.prog 22 #[.string of] W fun e w' => e = .returned (.string L_Name) ∧ W = w' := by
  have e0 : (of.toList == [67, 97, 114, 100]) = false := by rw [hof]; decide
  have e1 : (of.toList == [65, 100, 100, 114, 101, 115, 115]) = false := by rw [hof]; decide
  have e2 : (of.toList == [65, 100, 100, 114, 101, 115, 115, 67, 111, 109, 112, 111, 110, 101, 110, 116]) = false := by rw [hof]; decide
  have e3 : (of.toList == [65, 110, 110, 105, 118, 101, 114, 115, 97, 114, 121]) = false := by rw [hof]; decide
  have e4 : (of.toList == [69, 109, 97, 105, 108, 65, 100, 100, 114, 101, 115, 115]) = false := by rw [hof]; decide
  have e5 : (of.toList == [76, 97, 110, 103, 117, 97, 103, 101, 80, 114, 101, 102]) = false := by rw [hof]; decide
  have e6 : (of.toList == [76, 105, 110, 107]) = false := by rw [hof]; decide
  have e7 : (of.toList == [77, 101, 100, 105, 97]) = false := by rw [hof]; decide
  have e8 : (of.toList == [78, 97, 109, 101]) = true := by rw [hof]; decide
  clear hof
  go_enter Try.func22, Try.ntmps22
  go_wp2_with fail
  go_ret
  exact ⟨ret_str (by decide +kernel), rfl⟩
set_option maxRecDepth 100000 in
set_option maxHeartbeats 8000000 in
theorem tab_NameComponent (of : ByteArray) (hof : of.toList = [78, 97, 109, 101, 67, 111, 109, 112, 111, 110, 101, 110, 116]) (W : World) : Calls Try.prog 22 #[.string of] W fun e w' => e = .returned (.string L_NameComponent) ∧ W = w' := by
  have e0 : (of.toList == [67, 97, 114, 100]) = false := by rw [hof]; decide
  have e1 : (of.toList == [65, 100, 100, 114, 101, 115, 115]) = false := by rw [hof]; decide
  have e2 : (of.toList == [65, 100, 100, 114, 101, 115, 115, 67, 111, 109, 112, 111, 110, 101, 110, 116]) = false := by rw [hof]; decide
  have e3 : (of.toList == [65, 110, 110, 105, 118, 101, 114, 115, 97, 114, 121]) = false := by rw [hof]; decide
  have e4 : (of.toList == [69, 109, 97, 105, 108, 65, 100, 100, 114, 101, 115, 115]) = false := by rw [hof]; decide
  have e5 : (of.toList == [76, 97, 110, 103, 117, 97, 103, 101, 80, 114, 101, 102]) = false := by rw [hof]; decide
  have e6 : (of.toList == [76, 105, 110, 107]) = false := by rw [hof]; decide
  have e7 : (of.toList == [77, 101, 100, 105, 97]) = false := by rw [hof]; decide
  have e8 : (of.toList == [78, 97, 109, 101]) = false := by rw [hof]; decide
  have e9 : (of.toList == [78, 97, 109, 101, 67, 111, 109, 112, 111, 110, 101, 110, 116]) = true := by rw [hof]; decide
  clear hof
  go_enter Try.func22, Try.ntmps22
  go_wp2_with fail
  go_ret
  exact ⟨ret_str (by decide +kernel), rfl⟩
set_option maxRecDepth 100000 in
set_option maxHeartbeats 8000000 in
theorem tab_Nickname (of : ByteArray) (hof : of.toList = [78, 105, 99, 107, 110, 97, 109, 101]) (W : World) : Calls Try.prog 22 #[.string of] W fun e w' => e = .returned (.string L_Nickname) ∧ W = w' := by
  have e0 : (of.toList == [67, 97, 114, 100]) = false := by rw [hof]; decide
  have e1 : (of.toList == [65, 100, 100, 114, 101, 115, 115]) = false := by rw [hof]; decide
  have e2 : (of.toList == [65, 100, 100, 114, 101, 115, 115, 67, 111, 109, 112, 111, 110, 101, 110, 116]) = false := by rw [hof]; decide
  have e3 : (of.toList == [65, 110, 110, 105, 118, 101, 114, 115, 97, 114, 121]) = false := by rw [hof]; decide
  have e4 : (of.toList == [69, 109, 97, 105, 108, 65, 100, 100, 114, 101, 115, 115]) = false := by rw [hof]; decide
  have e5 : (of.toList == [76, 97, 110, 103, 117, 97, 103, 101, 80, 114, 101, 102]) = false := by rw [hof]; decide
  have e6 : (of.toList == [76, 105, 110, 107]) = false := by rw [hof]; decide
  have e7 : (of.toList == [77, 101, 100, 105, 97]) = false := by rw [hof]; decide
  have e8 : (of.toList == [78, 97, 109, 101]) = false := by rw [hof]; decide
  have e9 : (of.toList == [78, 97, 109, 101, 67, 111, 109, 112, 111, 110, 101, 110, 116]) = false := by rw [hof]; decide
  have e10 : (of.toList == [78, 105, 99, 107, 110, 97, 109, 101]) = true := by rw [hof]; decide
  clear hof
  go_enter Try.func22, Try.ntmps22
  go_wp2_with fail
  go_ret
  exact ⟨ret_str (by decide +kernel), rfl⟩
set_option maxRecDepth 100000 in
set_option maxHeartbeats 8000000 in
theorem tab_Note (of : ByteArray) (hof : of.toList = [78, 111, 116, 101]) (W : World) : Calls Try.prog 22 #[.string of] W fun e w' => e = .returned (.string L_Note) ∧ W = w' := by
  have e0 : (of.toList == [67, 97, 114, 100]) = false := by rw [hof]; decide
  have e1 : (of.toList == [65, 100, 100, 114, 101, 115, 115]) = false := by rw [hof]; decide
  have e2 : (of.toList == [65, 100, 100, 114, 101, 115, 115, 67, 111, 109, 112, 111, 110, 101, 110, 116]) = false := by rw [hof]; decide
  have e3 : (of.toList == [65, 110, 110, 105, 118, 101, 114, 115, 97, 114, 121]) = false := by rw [hof]; decide
  have e4 : (of.toList == [69, 109, 97, 105, 108, 65, 100, 100, 114, 101, 115, 115]) = false := by rw [hof]; decide
  have e5 : (of.toList == [76, 97, 110, 103, 117, 97, 103, 101, 80, 114, 101, 102]) = false := by rw [hof]; decide
  have e6 : (of.toList == [76, 105, 110, 107]) = false := by rw [hof]; decide
  have e7 : (of.toList == [77, 101, 100, 105, 97]) = false := by rw [hof]; decide
  have e8 : (of.toList == [78, 97, 109, 101]) = false := by rw [hof]; decide
  have e9 : (of.toList == [78, 97, 109, 101, 67, 111, 109, 112, 111, 110, 101, 110, 116]) = false := by rw [hof]; decide
  have e10 : (of.toList == [78, 105, 99, 107, 110, 97, 109, 101]) = false := by rw [hof]; decide
  have e11 : (of.toList == [78, 111, 116, 101]) = true := by rw [hof]; decide
  clear hof
  go_enter Try.func22, Try.ntmps22
  go_wp2_with fail
  go_ret
  exact ⟨ret_str (by decide +kernel), rfl⟩
set_option maxRecDepth 100000 in
set_option maxHeartbeats 8000000 in
theorem tab_OnlineService (of : ByteArray) (hof : of.toList = [79, 110, 108, 105, 110, 101, 83, 101, 114, 118, 105, 99, 101]) (W : World) : Calls Try.prog 22 #[.string of] W fun e w' => e = .returned (.string L_OnlineService) ∧ W = w' := by
  have e0 : (of.toList == [67, 97, 114, 100]) = false := by rw [hof]; decide
  have e1 : (of.toList == [65, 100, 100, 114, 101, 115, 115]) = false := by rw [hof]; decide
  have e2 : (of.toList == [65, 100, 100, 114, 101, 115, 115, 67, 111, 109, 112, 111, 110, 101, 110, 116]) = false := by rw [hof]; decide
  have e3 : (of.toList == [65, 110, 110, 105, 118, 101, 114, 115, 97, 114, 121]) = false := by rw [hof]; decide
  have e4 : (of.toList == [69, 109, 97, 105, 108, 65, 100, 100, 114, 101, 115, 115]) = false := by rw [hof]; decide
  have e5 : (of.toList == [76, 97, 110, 103, 117, 97, 103, 101, 80, 114, 101, 102]) = false := by rw [hof]; decide
  have e6 : (of.toList == [76, 105, 110, 107]) = false := by rw [hof]; decide
  have e7 : (of.toList == [77, 101, 100, 105, 97]) = false := by rw [hof]; decide
  have e8 : (of.toList == [78, 97, 109, 101]) = false := by rw [hof]; decide
  have e9 : (of.toList == [78, 97, 109, 101, 67, 111, 109, 112, 111, 110, 101, 110, 116]) = false := by rw [hof]; decide
  have e10 : (of.toList == [78, 105, 99, 107, 110, 97, 109, 101]) = false := by rw [hof]; decide
  have e11 : (of.toList == [78, 111, 116, 101]) = false := by rw [hof]; decide
  have e12 : (of.toList == [79, 110, 108, 105, 110, 101, 83, 101, 114, 118, 105, 99, 101]) = true := by rw [hof]; decide
  clear hof
  go_enter Try.func22, Try.ntmps22
  go_wp2_with fail
  go_ret
  exact ⟨ret_str (by decide +kernel), rfl⟩
set_option maxRecDepth 100000 in
set_option maxHeartbeats 8000000 in
theorem tab_OrgUnit (of : ByteArray) (hof : of.toList = [79, 114, 103, 85, 110, 105, 116]) (W : World) : Calls Try.prog 22 #[.string of] W fun e w' => e = .returned (.string L_OrgUnit) ∧ W = w' := by
  have e0 : (of.toList == [67, 97, 114, 100]) = false := by rw [hof]; decide
  have e1 : (of.toList == [65, 100, 100, 114, 101, 115, 115]) = false := by rw [hof]; decide
  have e2 : (of.toList == [65, 100, 100, 114, 101, 115, 115, 67, 111, 109, 112, 111, 110, 101, 110, 116]) = false := by rw [hof]; decide
  have e3 : (of.toList == [65, 110, 110, 105, 118, 101, 114, 115, 97, 114, 121]) = false := by rw [hof]; decide
  have e4 : (of.toList == [69, 109, 97, 105, 108, 65, 100, 100, 114, 101, 115, 115]) = false := by rw [hof]; decide
  have e5 : (of.toList == [76, 97, 110, 103, 117, 97, 103, 101, 80, 114, 101, 102]) = false := by rw [hof]; decide
  have e6 : (of.toList == [76, 105, 110, 107]) = false := by rw [hof]; decide
  have e7 : (of.toList == [77, 101, 100, 105, 97]) = false := by rw [hof]; decide
  have e8 : (of.toList == [78, 97, 109, 101]) = false := by rw [hof]; decide
  have e9 : (of.toList == [78, 97, 109, 101, 67, 111, 109, 112, 111, 110, 101, 110, 116]) = false := by rw [hof]; decide
  have e10 : (of.toList == [78, 105, 99, 107, 110, 97, 109, 101]) = false := by rw [hof]; decide
  have e11 : (of.toList == [78, 111, 116, 101]) = false := by rw [hof]; decide
  have e12 : (of.toList == [79, 110, 108, 105, 110, 101, 83, 101, 114, 118, 105, 99, 101]) = false := by rw [hof]; decide
  have e13 : (of.toList == [79, 114, 103, 85, 110, 105, 116]) = true := by rw [hof]; decide
  clear hof
  go_enter Try.func22, Try.ntmps22
  go_wp2_with fail
  go_ret
  exact ⟨ret_str (by decide +kernel), rfl⟩
set_option maxRecDepth 100000 in
set_option maxHeartbeats 8000000 in
theorem tab_Organization (of : ByteArray) (hof : of.toList = [79, 114, 103, 97, 110, 105, 122, 97, 116, 105, 111, 110]) (W : World) : Calls Try.prog 22 #[.string of] W fun e w' => e = .returned (.string L_Organization) ∧ W = w' := by
  have e0 : (of.toList == [67, 97, 114, 100]) = false := by rw [hof]; decide
  have e1 : (of.toList == [65, 100, 100, 114, 101, 115, 115]) = false := by rw [hof]; decide
  have e2 : (of.toList == [65, 100, 100, 114, 101, 115, 115, 67, 111, 109, 112, 111, 110, 101, 110, 116]) = false := by rw [hof]; decide
  have e3 : (of.toList == [65, 110, 110, 105, 118, 101, 114, 115, 97, 114, 121]) = false := by rw [hof]; decide
  have e4 : (of.toList == [69, 109, 97, 105, 108, 65, 100, 100, 114, 101, 115, 115]) = false := by rw [hof]; decide
  have e5 : (of.toList == [76, 97, 110, 103, 117, 97, 103, 101, 80, 114, 101, 102]) = false := by rw [hof]; decide
  have e6 : (of.toList == [76, 105, 110, 107]) = false := by rw [hof]; decide
  have e7 : (of.toList == [77, 101, 100, 105, 97]) = false := by rw [hof]; decide
  have e8 : (of.toList == [78, 97, 109, 101]) = false := by rw [hof]; decide
  have e9 : (of.toList == [78, 97, 109, 101, 67, 111, 109, 112, 111, 110, 101, 110, 116]) = false := by rw [hof]; decide
  have e10 : (of.toList == [78, 105, 99, 107, 110, 97, 109, 101]) = false := by rw [hof]; decide
  have e11 : (of.toList == [78, 111, 116, 101]) = false := by rw [hof]; decide
  have e12 : (of.toList == [79, 110, 108, 105, 110, 101, 83, 101, 114, 118, 105, 99, 101]) = false := by rw [hof]; decide
  have e13 : (of.toList == [79, 114, 103, 85, 110, 105, 116]) = false := by rw [hof]; decide
  have e14 : (of.toList == [79, 114, 103, 97, 110, 105, 122, 97, 116, 105, 111, 110]) = true := by rw [hof]; decide
  clear hof
  go_enter Try.func22, Try.ntmps22
  go_wp2_with fail
  go_ret
  exact ⟨ret_str (by decide +kernel), rfl⟩
set_option maxRecDepth 100000 in
set_option maxHeartbeats 8000000 in
theorem tab_PartialDate (of : ByteArray) (hof : of.toList = [80, 97, 114, 116, 105, 97, 108, 68, 97, 116, 101]) (W : World) : Calls Try.prog 22 #[.string of] W fun e w' => e = .returned (.string L_PartialDate) ∧ W = w' := by
  have e0 : (of.toList == [67, 97, 114, 100]) = false := by rw [hof]; decide
  have e1 : (of.toList == [65, 100, 100, 114, 101, 115, 115]) = false := by rw [hof]; decide
  have e2 : (of.toList == [65, 100, 100, 114, 101, 115, 115, 67, 111, 109, 112, 111, 110, 101, 110, 116]) = false := by rw [hof]; decide
  have e3 : (of.toList == [65, 110, 110, 105, 118, 101, 114, 115, 97, 114, 121]) = false := by rw [hof]; decide
  have e4 : (of.toList == [69, 109, 97, 105, 108, 65, 100, 100, 114, 101, 115, 115]) = false := by rw [hof]; decide
  have e5 : (of.toList == [76, 97, 110, 103, 117, 97, 103, 101, 80, 114, 101, 102]) = false := by rw [hof]; decide
  have e6 : (of.toList == [76, 105, 110, 107]) = false := by rw [hof]; decide
  have e7 : (of.toList == [77, 101, 100, 105, 97]) = false := by rw [hof]; decide
  have e8 : (of.toList == [78, 97, 109, 101]) = false := by rw [hof]; decide
  have e9 : (of.toList == [78, 97, 109, 101, 67, 111, 109, 112, 111, 110, 101, 110, 116]) = false := by rw [hof]; decide
  have e10 : (of.toList == [78, 105, 99, 107, 110, 97, 109, 101]) = false := by rw [hof]; decide
  have e11 : (of.toList == [78, 111, 116, 101]) = false := by rw [hof]; decide
  have e12 : (of.toList == [79, 110, 108, 105, 110, 101, 83, 101, 114, 118, 105, 99, 101]) = false := by rw [hof]; decide
  have e13 : (of.toList == [79, 114, 103, 85, 110, 105, 116]) = false := by rw [hof]; decide
  have e14 : (of.toList == [79, 114, 103, 97, 110, 105, 122, 97, 116, 105, 111, 110]) = false := by rw [hof]; decide
  have e15 : (of.toList == [80, 97, 114, 116, 105, 97, 108, 68, 97, 116, 101]) = true := by rw [hof]; decide
  clear hof
  go_enter Try.func22, Try.ntmps22
  go_wp2_with fail
  go_ret
  exact ⟨ret_str (by decide +kernel), rfl⟩
set_option maxRecDepth 100000 in
set_option maxHeartbeats 8000000 in
theorem tab_Phone (of : ByteArray) (hof : of.toList = [80, 104, 111, 110, 101]) (W : World) : Calls Try.prog 22 #[.string of] W fun e w' => e = .returned (.string L_Phone) ∧ W = w' := by
  have e0 : (of.toList == [67, 97, 114, 100]) = false := by rw [hof]; decide
  have e1 : (of.toList == [65, 100, 100, 114, 101, 115, 115]) = false := by rw [hof]; decide
  have e2 : (of.toList == [65, 100, 100, 114, 101, 115, 115, 67, 111, 109, 112, 111, 110, 101, 110, 116]) = false := by rw [hof]; decide
  have e3 : (of.toList == [65, 110, 110, 105, 118, 101, 114, 115, 97, 114, 121]) = false := by rw [hof]; decide
  have e4 : (of.toList == [69, 109, 97, 105, 108, 65, 100, 100, 114, 101, 115, 115]) = false := by rw [hof]; decide
  have e5 : (of.toList == [76, 97, 110, 103, 117, 97, 103, 101, 80, 114, 101, 102]) = false := by rw [hof]; decide
  have e6 : (of.toList == [76, 105, 110, 107]) = false := by rw [hof]; decide
  have e7 : (of.toList == [77, 101, 100, 105, 97]) = false := by rw [hof]; decide
  have e8 : (of.toList == [78, 97, 109, 101]) = false := by rw [hof]; decide
  have e9 : (of.toList == [78, 97, 109, 101, 67, 111, 109, 112, 111, 110, 101, 110, 116]) = false := by rw [hof]; decide
  have e10 : (of.toList == [78, 105, 99, 107, 110, 97, 109, 101]) = false := by rw [hof]; decide
  have e11 : (of.toList == [78, 111, 116, 101]) = false := by rw [hof]; decide
  have e12 : (of.toList == [79, 110, 108, 105, 110, 101, 83, 101, 114, 118, 105, 99, 101]) = false := by rw [hof]; decide
  have e13 : (of.toList == [79, 114, 103, 85, 110, 105, 116]) = false := by rw [hof]; decide
  have e14 : (of.toList == [79, 114, 103, 97, 110, 105, 122, 97, 116, 105, 111, 110]) = false := by rw [hof]; decide
  have e15 : (of.toList == [80, 97, 114, 116, 105, 97, 108, 68, 97, 116, 101]) = false := by rw [hof]; decide
  have e16 : (of.toList == [80, 104, 111, 110, 101]) = true := by rw [hof]; decide
  clear hof
  go_enter Try.func22, Try.ntmps22
  go_wp2_with fail
  go_ret
  exact ⟨ret_str (by decide +kernel), rfl⟩
set_option maxRecDepth 100000 in
set_option maxHeartbeats 8000000 in
theorem tab_Relation (of : ByteArray) (hof : of.toList = [82, 101, 108, 97, 116, 105, 111, 110]) (W : World) : Calls Try.prog 22 #[.string of] W fun e w' => e = .returned (.string L_Relation) ∧ W = w' := by
  have e0 : (of.toList == [67, 97, 114, 100]) = false := by rw [hof]; decide
  have e1 : (of.toList == [65, 100, 100, 114, 101, 115, 115]) = false := by rw [hof]; decide
  have e2 : (of.toList == [65, 100, 100, 114, 101, 115, 115, 67, 111, 109, 112, 111, 110, 101, 110, 116]) = false := by rw [hof]; decide
  have e3 : (of.toList == [65, 110, 110, 105, 118, 101, 114, 115, 97, 114, 121]) = false := by rw [hof]; decide
  have e4 : (of.toList == [69, 109, 97, 105, 108, 65, 100, 100, 114, 101, 115, 115]) = false := by rw [hof]; decide
  have e5 : (of.toList == [76, 97, 110, 103, 117, 97, 103, 101, 80, 114, 101, 102]) = false := by rw [hof]; decide
  have e6 : (of.toList == [76, 105, 110, 107]) = false := by rw [hof]; decide
  have e7 : (of.toList == [77, 101, 100, 105, 97]) = false := by rw [hof]; decide
  have e8 : (of.toList == [78, 97, 109, 101]) = false := by rw [hof]; decide
  have e9 : (of.toList == [78, 97, 109, 101, 67, 111, 109, 112, 111, 110, 101, 110, 116]) = false := by rw [hof]; decide
  have e10 : (of.toList == [78, 105, 99, 107, 110, 97, 109, 101]) = false := by rw [hof]; decide
  have e11 : (of.toList == [78, 111, 116, 101]) = false := by rw [hof]; decide
  have e12 : (of.toList == [79, 110, 108, 105, 110, 101, 83, 101, 114, 118, 105, 99, 101]) = false := by rw [hof]; decide
  have e13 : (of.toList == [79, 114, 103, 85, 110, 105, 116]) = false := by rw [hof]; decide
  have e14 : (of.toList == [79, 114, 103, 97, 110, 105, 122, 97, 116, 105, 111, 110]) = false := by rw [hof]; decide
  have e15 : (of.toList == [80, 97, 114, 116, 105, 97, 108, 68, 97, 116, 101]) = false := by rw [hof]; decide
  have e16 : (of.toList == [80, 104, 111, 110, 101]) = false := by rw [hof]; decide
  have e17 : (of.toList == [82, 101, 108, 97, 116, 105, 111, 110]) = true := by rw [hof]; decide
  clear hof
  go_enter Try.func22, Try.ntmps22
  go_wp2_with fail
  go_ret
  exact ⟨ret_str (by decide +kernel), rfl⟩
set_option maxRecDepth 100000 in
set_option maxHeartbeats 8000000 in
theorem tab_Timestamp (of : ByteArray) (hof : of.toList = [84, 105, 109, 101, 115, 116, 97, 109, 112]) (W : World) : Calls Try.prog 22 #[.string of] W fun e w' => e = .returned (.string L_Timestamp) ∧ W = w' := by
  have e0 : (of.toList == [67, 97, 114, 100]) = false := by rw [hof]; decide
  have e1 : (of.toList == [65, 100, 100, 114, 101, 115, 115]) = false := by rw [hof]; decide
  have e2 : (of.toList == [65, 100, 100, 114, 101, 115, 115, 67, 111, 109, 112, 111, 110, 101, 110, 116]) = false := by rw [hof]; decide
  have e3 : (of.toList == [65, 110, 110, 105, 118, 101, 114, 115, 97, 114, 121]) = false := by rw [hof]; decide
  have e4 : (of.toList == [69, 109, 97, 105, 108, 65, 100, 100, 114, 101, 115, 115]) = false := by rw [hof]; decide
  have e5 : (of.toList == [76, 97, 110, 103, 117, 97, 103, 101, 80, 114, 101, 102]) = false := by rw [hof]; decide
  have e6 : (of.toList == [76, 105, 110, 107]) = false := by rw [hof]; decide
  have e7 : (of.toList == [77, 101, 100, 105, 97]) = false := by rw [hof]; decide
  have e8 : (of.toList == [78, 97, 109, 101]) = false := by rw [hof]; decide
  have e9 : (of.toList == [78, 97, 109, 101, 67, 111, 109, 112, 111, 110, 101, 110, 116]) = false := by rw [hof]; decide
  have e10 : (of.toList == [78, 105, 99, 107, 110, 97, 109, 101]) = false := by rw [hof]; decide
  have e11 : (of.toList == [78, 111, 116, 101]) = false := by rw [hof]; decide
  have e12 : (of.toList == [79, 110, 108, 105, 110, 101, 83, 101, 114, 118, 105, 99, 101]) = false := by rw [hof]; decide
  have e13 : (of.toList == [79, 114, 103, 85, 110, 105, 116]) = false := by rw [hof]; decide
  have e14 : (of.toList == [79, 114, 103, 97, 110, 105, 122, 97, 116, 105, 111, 110]) = false := by rw [hof]; decide
  have e15 : (of.toList == [80, 97, 114, 116, 105, 97, 108, 68, 97, 116, 101]) = false := by rw [hof]; decide
  have e16 : (of.toList == [80, 104, 111, 110, 101]) = false := by rw [hof]; decide
  have e17 : (of.toList == [82, 101, 108, 97, 116, 105, 111, 110]) = false := by rw [hof]; decide
  have e18 : (of.toList == [84, 105, 109, 101, 115, 116, 97, 109, 112]) = true := by rw [hof]; decide
  clear hof
  go_enter Try.func22, Try.ntmps22
  go_wp2_with fail
  go_ret
  exact ⟨ret_str (by decide +kernel), rfl⟩
set_option maxRecDepth 100000 in
set_option maxHeartbeats 8000000 in
theorem tab_Title (of : ByteArray) (hof : of.toList = [84, 105, 116, 108, 101]) (W : World) : Calls Try.prog 22 #[.string of] W fun e w' => e = .returned (.string L_Title) ∧ W = w' := by
  have e0 : (of.toList == [67, 97, 114, 100]) = false := by rw [hof]; decide
  have e1 : (of.toList == [65, 100, 100, 114, 101, 115, 115]) = false := by rw [hof]; decide
  have e2 : (of.toList == [65, 100, 100, 114, 101, 115, 115, 67, 111, 109, 112, 111, 110, 101, 110, 116]) = false := by rw [hof]; decide
  have e3 : (of.toList == [65, 110, 110, 105, 118, 101, 114, 115, 97, 114, 121]) = false := by rw [hof]; decide
  have e4 : (of.toList == [69, 109, 97, 105, 108, 65, 100, 100, 114, 101, 115, 115]) = false := by rw [hof]; decide
  have e5 : (of.toList == [76, 97, 110, 103, 117, 97, 103, 101, 80, 114, 101, 102]) = false := by rw [hof]; decide
  have e6 : (of.toList == [76, 105, 110, 107]) = false := by rw [hof]; decide
  have e7 : (of.toList == [77, 101, 100, 105, 97]) = false := by rw [hof]; decide
  have e8 : (of.toList == [78, 97, 109, 101]) = false := by rw [hof]; decide
  have e9 : (of.toList == [78, 97, 109, 101, 67, 111, 109, 112, 111, 110, 101, 110, 116]) = false := by rw [hof]; decide
  have e10 : (of.toList == [78, 105, 99, 107, 110, 97, 109, 101]) = false := by rw [hof]; decide
  have e11 : (of.toList == [78, 111, 116, 101]) = false := by rw [hof]; decide
  have e12 : (of.toList == [79, 110, 108, 105, 110, 101, 83, 101, 114, 118, 105, 99, 101]) = false := by rw [hof]; decide
  have e13 : (of.toList == [79, 114, 103, 85, 110, 105, 116]) = false := by rw [hof]; decide
  have e14 : (of.toList == [79, 114, 103, 97, 110, 105, 122, 97, 116, 105, 111, 110]) = false := by rw [hof]; decide
  have e15 : (of.toList == [80, 97, 114, 116, 105, 97, 108, 68, 97, 116, 101]) = false := by rw [hof]; decide
  have e16 : (of.toList == [80, 104, 111, 110, 101]) = false := by rw [hof]; decide
  have e17 : (of.toList == [82, 101, 108, 97, 116, 105, 111, 110]) = false := by rw [hof]; decide
  have e18 : (of.toList == [84, 105, 109, 101, 115, 116, 97, 109, 112]) = false := by rw [hof]; decide
  have e19 : (of.toList == [84, 105, 116, 108, 101]) = true := by rw [hof]; decide
  clear hof
  go_enter Try.func22, Try.ntmps22
  go_wp2_with fail
  go_ret
  exact ⟨ret_str (by decide +kernel), rfl⟩
set_option maxRecDepth 100000 in
set_option maxHeartbeats 8000000 in
theorem plain_Card : (splitF L_Card 59).map propF = T_Card ∧ (splitF L_Card 59).length = 23 ∧ ((splitF L_Card 59).all fun u => fineP u) = true := by decide +kernel
theorem rat_Card (of : ByteArray) (hof : of.toList = [67, 97, 114, 100]) (W : World) : Calls Try.prog 10 #[.string of] W (RPost W.heap.size W 23 T_Card) := by
  have h := plain_Card
  rw [← h.1]
  exact rprops_at of L_Card (splitF L_Card 59) 23 (tab_Card of hof) (by decide +kernel) (by decide +kernel) rfl h.2.1 (by decide) (mem_all h.2.2) W
set_option maxRecDepth 100000 in
set_option maxHeartbeats 8000000 in
theorem plain_Address : (splitF L_Address 59).map propF = T_Address ∧ (splitF L_Address 59).length = 9 ∧ ((splitF L_Address 59).all fun u => fineP u) = true := by decide +kernel
theorem rat_Address (of : ByteArray) (hof : of.toList = [65, 100, 100, 114, 101, 115, 115]) (W : World) : Calls Try.prog 10 #[.string of] W (RPost W.heap.size W 9 T_Address) := by
  have h := plain_Address
  rw [← h.1]
  exact rprops_at of L_Address (splitF L_Address 59) 9 (tab_Address of hof) (by decide +kernel) (by decide +kernel) rfl h.2.1 (by decide) (mem_all h.2.2) W
set_option maxRecDepth 100000 in
set_option maxHeartbeats 8000000 in
theorem plain_AddressComponent : (splitF L_AddressComponent 59).map propF = T_AddressComponent ∧ (splitF L_AddressComponent 59).length = 2 ∧ ((splitF L_AddressComponent 59).all fun u => fineP u) = true := by decide +kernel
theorem rat_AddressComponent (of : ByteArray) (hof : of.toList = [65, 100, 100, 114, 101, 115, 115, 67, 111, 109, 112, 111, 110, 101, 110, 116]) (W : World) : Calls Try.prog 10 #[.string of] W (RPost W.heap.size W 2 T_AddressComponent) := by
  have h := plain_AddressComponent
  rw [← h.1]
  exact rprops_at of L_AddressComponent (splitF L_AddressComponent 59) 2 (tab_AddressComponent of hof) (by decide +kernel) (by decide +kernel) rfl h.2.1 (by decide) (mem_all h.2.2) W
set_option maxRecDepth 100000 in
set_option maxHeartbeats 8000000 in
theorem plain_Anniversary : (splitF L_Anniversary 59).map propF = T_Anniversary ∧ (splitF L_Anniversary 59).length = 2 ∧ ((splitF L_Anniversary 59).all fun u => fineP u) = true := by decide +kernel
theorem rat_Anniversary (of : ByteArray) (hof : of.toList = [65, 110, 110, 105, 118, 101, 114, 115, 97, 114, 121]) (W : World) : Calls Try.prog 10 #[.string of] W (RPost W.heap.size W 2 T_Anniversary) := by
  have h := plain_Anniversary
  rw [← h.1]
  exact rprops_at of L_Anniversary (splitF L_Anniversary 59) 2 (tab_Anniversary of hof) (by decide +kernel) (by decide +kernel) rfl h.2.1 (by decide) (mem_all h.2.2) W
set_option maxRecDepth 100000 in
set_option maxHeartbeats 8000000 in
theorem plain_EmailAddress : (splitF L_EmailAddress 59).map propF = T_EmailAddress ∧ (splitF L_EmailAddress 59).length = 4 ∧ ((splitF L_EmailAddress 59).all fun u => fineP u) = true := by decide +kernel
theorem rat_EmailAddress (of : ByteArray) (hof : of.toList = [69, 109, 97, 105, 108, 65, 100, 100, 114, 101, 115, 115]) (W : World) : Calls Try.prog 10 #[.string of] W (RPost W.heap.size W 4 T_EmailAddress) := by
  have h := plain_EmailAddress
  rw [← h.1]
  exact rprops_at of L_EmailAddress (splitF L_EmailAddress 59) 4 (tab_EmailAddress of hof) (by decide +kernel) (by decide +kernel) rfl h.2.1 (by decide) (mem_all h.2.2) W
set_option maxRecDepth 100000 in
set_option maxHeartbeats 8000000 in
theorem plain_LanguagePref : (splitF L_LanguagePref 59).map propF = T_LanguagePref ∧ (splitF L_LanguagePref 59).length = 3 ∧ ((splitF L_LanguagePref 59).all fun u => fineP u) = true := by decide +kernel
theorem rat_LanguagePref (of : ByteArray) (hof : of.toList = [76, 97, 110, 103, 117, 97, 103, 101, 80, 114, 101, 102]) (W : World) : Calls Try.prog 10 #[.string of] W (RPost W.heap.size W 3 T_LanguagePref) := by
  have h := plain_LanguagePref
  rw [← h.1]
  exact rprops_at of L_LanguagePref (splitF L_LanguagePref 59) 3 (tab_LanguagePref of hof) (by decide +kernel) (by decide +kernel) rfl h.2.1 (by decide) (mem_all h.2.2) W
set_option maxRecDepth 100000 in
set_option maxHeartbeats 8000000 in
theorem plain_Link : (splitF L_Link 59).map propF = T_Link ∧ (splitF L_Link 59).length = 6 ∧ ((splitF L_Link 59).all fun u => fineP u) = true := by decide +kernel
theorem rat_Link (of : ByteArray) (hof : of.toList = [76, 105, 110, 107]) (W : World) : Calls Try.prog 10 #[.string of] W (RPost W.heap.size W 6 T_Link) := by
  have h := plain_Link
  rw [← h.1]
  exact rprops_at of L_Link (splitF L_Link 59) 6 (tab_Link of hof) (by decide +kernel) (by decide +kernel) rfl h.2.1 (by decide) (mem_all h.2.2) W
set_option maxRecDepth 100000 in
set_option maxHeartbeats 8000000 in
theorem plain_Media : (splitF L_Media 59).map propF = T_Media ∧ (splitF L_Media 59).length = 6 ∧ ((splitF L_Media 59).all fun u => fineP u) = true := by decide +kernel
theorem rat_Media (of : ByteArray) (hof : of.toList = [77, 101, 100, 105, 97]) (W : World) : Calls Try.prog 10 #[.string of] W (RPost W.heap.size W 6 T_Media) := by
  have h := plain_Media
  rw [← h.1]
  exact rprops_at of L_Media (splitF L_Media 59) 6 (tab_Media of hof) (by decide +kernel) (by decide +kernel) rfl h.2.1 (by decide) (mem_all h.2.2) W
set_option maxRecDepth 100000 in
set_option maxHeartbeats 8000000 in
theorem plain_Name : (splitF L_Name 59).map propF = T_Name ∧ (splitF L_Name 59).length = 4 ∧ ((splitF L_Name 59).all fun u => fineP u) = true := by decide +kernel
theorem rat_Name (of : ByteArray) (hof : of.toList = [78, 97, 109, 101]) (W : World) : Calls Try.prog 10 #[.string of] W (RPost W.heap.size W 4 T_Name) := by
  have h := plain_Name
  rw [← h.1]
  exact rprops_at of L_Name (splitF L_Name 59) 4 (tab_Name of hof) (by decide +kernel) (by decide +kernel) rfl h.2.1 (by decide) (mem_all h.2.2) W
set_option maxRecDepth 100000 in
set_option maxHeartbeats 8000000 in
theorem plain_NameComponent : (splitF L_NameComponent 59).map propF = T_NameComponent ∧ (splitF L_NameComponent 59).length = 2 ∧ ((splitF L_NameComponent 59).all fun u => fineP u) = true := by decide +kernel
theorem rat_NameComponent (of : ByteArray) (hof : of.toList = [78, 97, 109, 101, 67, 111, 109, 112, 111, 110, 101, 110, 116]) (W : World) : Calls Try.prog 10 #[.string of] W (RPost W.heap.size W 2 T_NameComponent) := by
  have h := plain_NameComponent
  rw [← h.1]
  exact rprops_at of L_NameComponent (splitF L_NameComponent 59) 2 (tab_NameComponent of hof) (by decide +kernel) (by decide +kernel) rfl h.2.1 (by decide) (mem_all h.2.2) W
set_option maxRecDepth 100000 in
set_option maxHeartbeats 8000000 in
theorem plain_Nickname : (splitF L_Nickname 59).map propF = T_Nickname ∧ (splitF L_Nickname 59).length = 3 ∧ ((splitF L_Nickname 59).all fun u => fineP u) = true := by decide +kernel
theorem rat_Nickname (of : ByteArray) (hof : of.toList = [78, 105, 99, 107, 110, 97, 109, 101]) (W : World) : Calls Try.prog 10 #[.string of] W (RPost W.heap.size W 3 T_Nickname) := by
  have h := plain_Nickname
  rw [← h.1]
  exact rprops_at of L_Nickname (splitF L_Nickname 59) 3 (tab_Nickname of hof) (by decide +kernel) (by decide +kernel) rfl h.2.1 (by decide) (mem_all h.2.2) W
set_option maxRecDepth 100000 in
set_option maxHeartbeats 8000000 in
theorem plain_Note : (splitF L_Note 59).map propF = T_Note ∧ (splitF L_Note 59).length = 2 ∧ ((splitF L_Note 59).all fun u => fineP u) = true := by decide +kernel
theorem rat_Note (of : ByteArray) (hof : of.toList = [78, 111, 116, 101]) (W : World) : Calls Try.prog 10 #[.string of] W (RPost W.heap.size W 2 T_Note) := by
  have h := plain_Note
  rw [← h.1]
  exact rprops_at of L_Note (splitF L_Note 59) 2 (tab_Note of hof) (by decide +kernel) (by decide +kernel) rfl h.2.1 (by decide) (mem_all h.2.2) W
set_option maxRecDepth 100000 in
set_option maxHeartbeats 8000000 in
theorem plain_OnlineService : (splitF L_OnlineService 59).map propF = T_OnlineService ∧ (splitF L_OnlineService 59).length = 6 ∧ ((splitF L_OnlineService 59).all fun u => fineP u) = true := by decide +kernel
theorem rat_OnlineService (of : ByteArray) (hof : of.toList = [79, 110, 108, 105, 110, 101, 83, 101, 114, 118, 105, 99, 101]) (W : World) : Calls Try.prog 10 #[.string of] W (RPost W.heap.size W 6 T_OnlineService) := by
  have h := plain_OnlineService
  rw [← h.1]
  exact rprops_at of L_OnlineService (splitF L_OnlineService 59) 6 (tab_OnlineService of hof) (by decide +kernel) (by decide +kernel) rfl h.2.1 (by decide) (mem_all h.2.2) W
set_option maxRecDepth 100000 in
set_option maxHeartbeats 8000000 in
theorem plain_OrgUnit : (splitF L_OrgUnit 59).map propF = T_OrgUnit ∧ (splitF L_OrgUnit 59).length = 2 ∧ ((splitF L_OrgUnit 59).all fun u => fineP u) = true := by decide +kernel
theorem rat_OrgUnit (of : ByteArray) (hof : of.toList = [79, 114, 103, 85, 110, 105, 116]) (W : World) : Calls Try.prog 10 #[.string of] W (RPost W.heap.size W 2 T_OrgUnit) := by
  have h := plain_OrgUnit
  rw [← h.1]
  exact rprops_at of L_OrgUnit (splitF L_OrgUnit 59) 2 (tab_OrgUnit of hof) (by decide +kernel) (by decide +kernel) rfl h.2.1 (by decide) (mem_all h.2.2) W
set_option maxRecDepth 100000 in
set_option maxHeartbeats 8000000 in
theorem plain_Organization : (splitF L_Organization 59).map propF = T_Organization ∧ (splitF L_Organization 59).length = 4 ∧ ((splitF L_Organization 59).all fun u => fineP u) = true := by decide +kernel
theorem rat_Organization (of : ByteArray) (hof : of.toList = [79, 114, 103, 97, 110, 105, 122, 97, 116, 105, 111, 110]) (W : World) : Calls Try.prog 10 #[.string of] W (RPost W.heap.size W 4 T_Organization) := by
  have h := plain_Organization
  rw [← h.1]
  exact rprops_at of L_Organization (splitF L_Organization 59) 4 (tab_Organization of hof) (by decide +kernel) (by decide +kernel) rfl h.2.1 (by decide) (mem_all h.2.2) W
set_option maxRecDepth 100000 in
set_option maxHeartbeats 8000000 in
theorem plain_PartialDate : (splitF L_PartialDate 59).map propF = T_PartialDate ∧ (splitF L_PartialDate 59).length = 3 ∧ ((splitF L_PartialDate 59).all fun u => fineP u) = true := by decide +kernel
theorem rat_PartialDate (of : ByteArray) (hof : of.toList = [80, 97, 114, 116, 105, 97, 108, 68, 97, 116, 101]) (W : World) : Calls Try.prog 10 #[.string of] W (RPost W.heap.size W 3 T_PartialDate) := by
  have h := plain_PartialDate
  rw [← h.1]
  exact rprops_at of L_PartialDate (splitF L_PartialDate 59) 3 (tab_PartialDate of hof) (by decide +kernel) (by decide +kernel) rfl h.2.1 (by decide) (mem_all h.2.2) W
set_option maxRecDepth 100000 in
set_option maxHeartbeats 8000000 in
theorem plain_Phone : (splitF L_Phone 59).map propF = T_Phone ∧ (splitF L_Phone 59).length = 5 ∧ ((splitF L_Phone 59).all fun u => fineP u) = true := by decide +kernel
theorem rat_Phone (of : ByteArray) (hof : of.toList = [80, 104, 111, 110, 101]) (W : World) : Calls Try.prog 10 #[.string of] W (RPost W.heap.size W 5 T_Phone) := by
  have h := plain_Phone
  rw [← h.1]
  exact rprops_at of L_Phone (splitF L_Phone 59) 5 (tab_Phone of hof) (by decide +kernel) (by decide +kernel) rfl h.2.1 (by decide) (mem_all h.2.2) W
set_option maxRecDepth 100000 in
set_option maxHeartbeats 8000000 in
theorem plain_Relation : (splitF L_Relation 59).map propF = T_Relation ∧ (splitF L_Relation 59).length = 1 ∧ ((splitF L_Relation 59).all fun u => fineP u) = true := by decide +kernel
theorem rat_Relation (of : ByteArray) (hof : of.toList = [82, 101, 108, 97, 116, 105, 111, 110]) (W : World) : Calls Try.prog 10 #[.string of] W (RPost W.heap.size W 1 T_Relation) := by
  have h := plain_Relation
  rw [← h.1]
  exact rprops_at of L_Relation (splitF L_Relation 59) 1 (tab_Relation of hof) (by decide +kernel) (by decide +kernel) rfl h.2.1 (by decide) (mem_all h.2.2) W
set_option maxRecDepth 100000 in
set_option maxHeartbeats 8000000 in
theorem plain_Timestamp : (splitF L_Timestamp 59).map propF = T_Timestamp ∧ (splitF L_Timestamp 59).length = 1 ∧ ((splitF L_Timestamp 59).all fun u => fineP u) = true := by decide +kernel
theorem rat_Timestamp (of : ByteArray) (hof : of.toList = [84, 105, 109, 101, 115, 116, 97, 109, 112]) (W : World) : Calls Try.prog 10 #[.string of] W (RPost W.heap.size W 1 T_Timestamp) := by
  have h := plain_Timestamp
  rw [← h.1]
  exact rprops_at of L_Timestamp (splitF L_Timestamp 59) 1 (tab_Timestamp of hof) (by decide +kernel) (by decide +kernel) rfl h.2.1 (by decide) (mem_all h.2.2) W
set_option maxRecDepth 100000 in
set_option maxHeartbeats 8000000 in
theorem plain_Title : (splitF L_Title 59).map propF = T_Title ∧ (splitF L_Title 59).length = 3 ∧ ((splitF L_Title 59).all fun u => fineP u) = true := by decide +kernel
theorem rat_Title (of : ByteArray) (hof : of.toList = [84, 105, 116, 108, 101]) (W : World) : Calls Try.prog 10 #[.string of] W (RPost W.heap.size W 3 T_Title) := by
  have h := plain_Title
  rw [← h.1]
  exact rprops_at of L_Title (splitF L_Title 59) 3 (tab_Title of hof) (by decide +kernel) (by decide +kernel) rfl h.2.1 (by decide) (mem_all h.2.2) W
set_option maxRecDepth 100000 in
set_option maxHeartbeats 8000000 in
theorem rnone (of : ByteArray) (h0 : ¬ of = ⟨[67, 97, 114, 100].toArray⟩) (h1 : ¬ of = ⟨[65, 100, 100, 114, 101, 115, 115].toArray⟩) (h2 : ¬ of = ⟨[65, 100, 100, 114, 101, 115, 115, 67, 111, 109, 112, 111, 110, 101, 110, 116].toArray⟩) (h3 : ¬ of = ⟨[65, 110, 110, 105, 118, 101, 114, 115, 97, 114, 121].toArray⟩) (h4 : ¬ of = ⟨[69, 109, 97, 105, 108, 65, 100, 100, 114, 101, 115, 115].toArray⟩) (h5 : ¬ of = ⟨[76, 97, 110, 103, 117, 97, 103, 101, 80, 114, 101, 102].toArray⟩) (h6 : ¬ of = ⟨[76, 105, 110, 107].toArray⟩) (h7 : ¬ of = ⟨[77, 101, 100, 105, 97].toArray⟩) (h8 : ¬ of = ⟨[78, 97, 109, 101].toArray⟩) (h9 : ¬ of = ⟨[78, 97, 109, 101, 67, 111, 109, 112, 111, 110, 101, 110, 116].toArray⟩) (h10 : ¬ of = ⟨[78, 105, 99, 107, 110, 97, 109, 101].toArray⟩) (h11 : ¬ of = ⟨[78, 111, 116, 101].toArray⟩) (h12 : ¬ of = ⟨[79, 110, 108, 105, 110, 101, 83, 101, 114, 118, 105, 99, 101].toArray⟩) (h13 : ¬ of = ⟨[79, 114, 103, 85, 110, 105, 116].toArray⟩) (h14 : ¬ of = ⟨[79, 114, 103, 97, 110, 105, 122, 97, 116, 105, 111, 110].toArray⟩) (h15 : ¬ of = ⟨[80, 97, 114, 116, 105, 97, 108, 68, 97, 116, 101].toArray⟩) (h16 : ¬ of = ⟨[80, 104, 111, 110, 101].toArray⟩) (h17 : ¬ of = ⟨[82, 101, 108, 97, 116, 105, 111, 110].toArray⟩) (h18 : ¬ of = ⟨[84, 105, 109, 101, 115, 116, 97, 109, 112].toArray⟩) (h19 : ¬ of = ⟨[84, 105, 116, 108, 101].toArray⟩) (W : World) : Calls Try.prog 10 #[.string of] W (RPost W.heap.size W 0 []) := by
  have HT : Hid (∀ w, Calls Try.prog 22 #[.string of] w fun e w' => e = .returned (.string ⟨#[]⟩) ∧ w = w') := Lib.hid fun w => by
    have e0 := text_not h0
    have e1 := text_not h1
    have e2 := text_not h2
    have e3 := text_not h3
    have e4 := text_not h4
    have e5 := text_not h5
    have e6 := text_not h6
    have e7 := text_not h7
    have e8 := text_not h8
    have e9 := text_not h9
    have e10 := text_not h10
    have e11 := text_not h11
    have e12 := text_not h12
    have e13 := text_not h13
    have e14 := text_not h14
    have e15 := text_not h15
    have e16 := text_not h16
    have e17 := text_not h17
    have e18 := text_not h18
    have e19 := text_not h19
    clear h0 h1 h2 h3 h4 h5 h6 h7 h8 h9 h10 h11 h12 h13 h14 h15 h16 h17 h18 h19
    go_enter Try.func22, Try.ntmps22
    go_wp2_with fail
    go_ret
    exact ⟨rfl, rfl⟩
  clear h0 h1 h2 h3 h4 h5 h6 h7 h8 h9 h10 h11 h12 h13 h14 h15 h16 h17 h18 h19
  have e0 : ∃ t : ByteArray, t = ⟨#[]⟩ := ⟨_, rfl⟩
  obtain ⟨t, ht⟩ := e0
  rw [← ht] at HT
  have h1 := txt_none ht
  clear ht
  go_enter Try.func10, Try.ntmps10
  go_wp2_with fail
  refine (HT.out _).mono ?_
  rintro e w0 ⟨rfl, rfl⟩
  go_wp2_with fail
  go_ret
  exact ⟨_, _, rfl, World.ownsRow_nil _ _ _ _, Below.refl _ _⟩
set_option maxRecDepth 100000 in
set_option maxHeartbeats 8000000 in
theorem rProps_any (of : ByteArray) (W : World) : Calls Try.prog 10 #[.string of] W (RPost W.heap.size W (propsF of).length (propsF of)) := by
  by_cases h0 : of = ⟨[67, 97, 114, 100].toArray⟩
  · have e : propsF of = T_Card := by unfold propsF; rw [if_pos h0]
    rw [e]
    exact rat_Card of (text_is h0) W
  by_cases h1 : of = ⟨[65, 100, 100, 114, 101, 115, 115].toArray⟩
  · have e : propsF of = T_Address := by unfold propsF; rw [if_neg h0, if_pos h1]
    rw [e]
    exact rat_Address of (text_is h1) W
  by_cases h2 : of = ⟨[65, 100, 100, 114, 101, 115, 115, 67, 111, 109, 112, 111, 110, 101, 110, 116].toArray⟩
  · have e : propsF of = T_AddressComponent := by unfold propsF; rw [if_neg h0, if_neg h1, if_pos h2]
    rw [e]
    exact rat_AddressComponent of (text_is h2) W
  by_cases h3 : of = ⟨[65, 110, 110, 105, 118, 101, 114, 115, 97, 114, 121].toArray⟩
  · have e : propsF of = T_Anniversary := by unfold propsF; rw [if_neg h0, if_neg h1, if_neg h2, if_pos h3]
    rw [e]
    exact rat_Anniversary of (text_is h3) W
  by_cases h4 : of = ⟨[69, 109, 97, 105, 108, 65, 100, 100, 114, 101, 115, 115].toArray⟩
  · have e : propsF of = T_EmailAddress := by unfold propsF; rw [if_neg h0, if_neg h1, if_neg h2, if_neg h3, if_pos h4]
    rw [e]
    exact rat_EmailAddress of (text_is h4) W
  by_cases h5 : of = ⟨[76, 97, 110, 103, 117, 97, 103, 101, 80, 114, 101, 102].toArray⟩
  · have e : propsF of = T_LanguagePref := by unfold propsF; rw [if_neg h0, if_neg h1, if_neg h2, if_neg h3, if_neg h4, if_pos h5]
    rw [e]
    exact rat_LanguagePref of (text_is h5) W
  by_cases h6 : of = ⟨[76, 105, 110, 107].toArray⟩
  · have e : propsF of = T_Link := by unfold propsF; rw [if_neg h0, if_neg h1, if_neg h2, if_neg h3, if_neg h4, if_neg h5, if_pos h6]
    rw [e]
    exact rat_Link of (text_is h6) W
  by_cases h7 : of = ⟨[77, 101, 100, 105, 97].toArray⟩
  · have e : propsF of = T_Media := by unfold propsF; rw [if_neg h0, if_neg h1, if_neg h2, if_neg h3, if_neg h4, if_neg h5, if_neg h6, if_pos h7]
    rw [e]
    exact rat_Media of (text_is h7) W
  by_cases h8 : of = ⟨[78, 97, 109, 101].toArray⟩
  · have e : propsF of = T_Name := by unfold propsF; rw [if_neg h0, if_neg h1, if_neg h2, if_neg h3, if_neg h4, if_neg h5, if_neg h6, if_neg h7, if_pos h8]
    rw [e]
    exact rat_Name of (text_is h8) W
  by_cases h9 : of = ⟨[78, 97, 109, 101, 67, 111, 109, 112, 111, 110, 101, 110, 116].toArray⟩
  · have e : propsF of = T_NameComponent := by unfold propsF; rw [if_neg h0, if_neg h1, if_neg h2, if_neg h3, if_neg h4, if_neg h5, if_neg h6, if_neg h7, if_neg h8, if_pos h9]
    rw [e]
    exact rat_NameComponent of (text_is h9) W
  by_cases h10 : of = ⟨[78, 105, 99, 107, 110, 97, 109, 101].toArray⟩
  · have e : propsF of = T_Nickname := by unfold propsF; rw [if_neg h0, if_neg h1, if_neg h2, if_neg h3, if_neg h4, if_neg h5, if_neg h6, if_neg h7, if_neg h8, if_neg h9, if_pos h10]
    rw [e]
    exact rat_Nickname of (text_is h10) W
  by_cases h11 : of = ⟨[78, 111, 116, 101].toArray⟩
  · have e : propsF of = T_Note := by unfold propsF; rw [if_neg h0, if_neg h1, if_neg h2, if_neg h3, if_neg h4, if_neg h5, if_neg h6, if_neg h7, if_neg h8, if_neg h9, if_neg h10, if_pos h11]
    rw [e]
    exact rat_Note of (text_is h11) W
  by_cases h12 : of = ⟨[79, 110, 108, 105, 110, 101, 83, 101, 114, 118, 105, 99, 101].toArray⟩
  · have e : propsF of = T_OnlineService := by unfold propsF; rw [if_neg h0, if_neg h1, if_neg h2, if_neg h3, if_neg h4, if_neg h5, if_neg h6, if_neg h7, if_neg h8, if_neg h9, if_neg h10, if_neg h11, if_pos h12]
    rw [e]
    exact rat_OnlineService of (text_is h12) W
  by_cases h13 : of = ⟨[79, 114, 103, 85, 110, 105, 116].toArray⟩
  · have e : propsF of = T_OrgUnit := by unfold propsF; rw [if_neg h0, if_neg h1, if_neg h2, if_neg h3, if_neg h4, if_neg h5, if_neg h6, if_neg h7, if_neg h8, if_neg h9, if_neg h10, if_neg h11, if_neg h12, if_pos h13]
    rw [e]
    exact rat_OrgUnit of (text_is h13) W
  by_cases h14 : of = ⟨[79, 114, 103, 97, 110, 105, 122, 97, 116, 105, 111, 110].toArray⟩
  · have e : propsF of = T_Organization := by unfold propsF; rw [if_neg h0, if_neg h1, if_neg h2, if_neg h3, if_neg h4, if_neg h5, if_neg h6, if_neg h7, if_neg h8, if_neg h9, if_neg h10, if_neg h11, if_neg h12, if_neg h13, if_pos h14]
    rw [e]
    exact rat_Organization of (text_is h14) W
  by_cases h15 : of = ⟨[80, 97, 114, 116, 105, 97, 108, 68, 97, 116, 101].toArray⟩
  · have e : propsF of = T_PartialDate := by unfold propsF; rw [if_neg h0, if_neg h1, if_neg h2, if_neg h3, if_neg h4, if_neg h5, if_neg h6, if_neg h7, if_neg h8, if_neg h9, if_neg h10, if_neg h11, if_neg h12, if_neg h13, if_neg h14, if_pos h15]
    rw [e]
    exact rat_PartialDate of (text_is h15) W
  by_cases h16 : of = ⟨[80, 104, 111, 110, 101].toArray⟩
  · have e : propsF of = T_Phone := by unfold propsF; rw [if_neg h0, if_neg h1, if_neg h2, if_neg h3, if_neg h4, if_neg h5, if_neg h6, if_neg h7, if_neg h8, if_neg h9, if_neg h10, if_neg h11, if_neg h12, if_neg h13, if_neg h14, if_neg h15, if_pos h16]
    rw [e]
    exact rat_Phone of (text_is h16) W
  by_cases h17 : of = ⟨[82, 101, 108, 97, 116, 105, 111, 110].toArray⟩
  · have e : propsF of = T_Relation := by unfold propsF; rw [if_neg h0, if_neg h1, if_neg h2, if_neg h3, if_neg h4, if_neg h5, if_neg h6, if_neg h7, if_neg h8, if_neg h9, if_neg h10, if_neg h11, if_neg h12, if_neg h13, if_neg h14, if_neg h15, if_neg h16, if_pos h17]
    rw [e]
    exact rat_Relation of (text_is h17) W
  by_cases h18 : of = ⟨[84, 105, 109, 101, 115, 116, 97, 109, 112].toArray⟩
  · have e : propsF of = T_Timestamp := by unfold propsF; rw [if_neg h0, if_neg h1, if_neg h2, if_neg h3, if_neg h4, if_neg h5, if_neg h6, if_neg h7, if_neg h8, if_neg h9, if_neg h10, if_neg h11, if_neg h12, if_neg h13, if_neg h14, if_neg h15, if_neg h16, if_neg h17, if_pos h18]
    rw [e]
    exact rat_Timestamp of (text_is h18) W
  by_cases h19 : of = ⟨[84, 105, 116, 108, 101].toArray⟩
  · have e : propsF of = T_Title := by unfold propsF; rw [if_neg h0, if_neg h1, if_neg h2, if_neg h3, if_neg h4, if_neg h5, if_neg h6, if_neg h7, if_neg h8, if_neg h9, if_neg h10, if_neg h11, if_neg h12, if_neg h13, if_neg h14, if_neg h15, if_neg h16, if_neg h17, if_neg h18, if_pos h19]
    rw [e]
    exact rat_Title of (text_is h19) W
  have e : propsF of = [] := by unfold propsF; rw [if_neg h0, if_neg h1, if_neg h2, if_neg h3, if_neg h4, if_neg h5, if_neg h6, if_neg h7, if_neg h8, if_neg h9, if_neg h10, if_neg h11, if_neg h12, if_neg h13, if_neg h14, if_neg h15, if_neg h16, if_neg h17, if_neg h18, if_neg h19]
  rw [e]
  exact rnone of h0 h1 h2 h3 h4 h5 h6 h7 h8 h9 h10 h11 h12 h13 h14 h15 h16 h17 h18 h19 W
end Go.Proofs.Ytijpbfafkdpolaa
