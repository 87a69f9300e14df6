import Derived.Test.YtijpbfafkdpolaaDoorQ1
import Derived.Test.YtijpbfafkdpolaaDoorShelfQ
import Derived.Test.YtijpbfafkdpolaaDoorRows
import Derived.WalkLawsBesides
import Derived.Lib.Hide
import Derived.Laws.OwnMore
namespace Go.Proofs.YtijpbfafkdpolaaDoor
open Go.RowKit Go.Shelf

/-- words with a blank between -/
def wordsF (xs : List ByteArray) : ByteArray := ⟨(Lib.join (xs.map (·.data.toList)) [32]).toArray⟩
def aggP (p : Prp) : Value := .agg #[.string p.1, .int .i64 p.2.1, .string p.2.2.1, .bool p.2.2.2.1, .string p.2.2.2.2]

set_option maxHeartbeats 1000000 in
theorem p_none (name : ByteArray) (form : Int) (W : World) : Calls Tryd.prog 41 #[.string name, .int .i64 form, .slice none 0 0] W fun e w' => e = .returned (.agg #[.string name, .int .i64 form, .string ⟨#[]⟩, .bool false, .string ⟨#[]⟩]) ∧ Below W.heap.size W w' := by
  have B0 := Lib.hid ((Below.refl W.heap.size W).alloc (Nat.le_refl _) (.cells #[.string ⟨#[]⟩, .int .i64 0, .string ⟨#[]⟩, .bool false, .string ⟨#[]⟩] 41))
  go_enter Tryd.func41, Tryd.ntmps41
  go_wp2_with fail
  refine (Tryd.strings_Join_none none 0 ⟨#[32]⟩ _).mono ?_
  rintro e w1 ⟨rfl, rfl⟩
  go_wp2_with fail
  exact bodyPost_ret (v := .agg #[.string name, .int .i64 form, .string ⟨#[]⟩, .bool false, .string ⟨#[]⟩]) (by simp [results, Tryd.results41, go_sem]) rfl ⟨rfl, (Below.refl _ _).alloc (Nat.le_refl _) _⟩
theorem lit_cells (w : World) (xs : List ByteArray) (e : TypeId) : ∀ (j : Nat) x, xs[j]? = some x → (w.alloc (.cells (xs.map Value.string).toArray e)).cell? ⟨w.heap.size, 0 + j, none⟩ = some (.string x) := by
  intro j x hx
  rw [Nat.zero_add]
  simp only [World.cell?_alloc_new]
  simp [hx]

set_option maxHeartbeats 1000000 in
theorem p_at (name : ByteArray) (form : Int) (b n c : Nat) (xs : List ByteArray) (J : ByteArray) (hJ : wordsF xs = J) (W : World) (hn : xs.length = n) (hc : n ≤ c) (hcells : ∀ (j : Nat) x, xs[j]? = some x → W.cell? ⟨b, 0 + j, none⟩ = some (.string x)) (hb : b < W.heap.size) (hN : n ≤ 1000) (hlen : J.size ≤ 100000) :
    Calls Tryd.prog 41 #[.string name, .int .i64 form, .slice (some ⟨b, 0, none⟩) n c] W fun e w' => e = .returned (.agg #[.string name, .int .i64 form, .string J, .bool false, .string ⟨#[]⟩]) ∧ Below W.heap.size W w' := by
  have hb2 : b < (W.alloc (.cells #[.string ⟨#[]⟩, .int .i64 0, .string ⟨#[]⟩, .bool false, .string ⟨#[]⟩] 41)).heap.size := by simp; omega
  have hce2 : ∀ (j : Nat) x, xs[j]? = some x → (W.alloc (.cells #[.string ⟨#[]⟩, .int .i64 0, .string ⟨#[]⟩, .bool false, .string ⟨#[]⟩] 41)).cell? ⟨b, 0 + j, none⟩ = some (.string x) := fun j x hx => by
    rw [← hcells j x hx]
    exact ((Below.refl W.heap.size W).alloc (Nat.le_refl _) _).cell (p := ⟨b, 0 + j, none⟩) hb
  have hl2 : (Lib.join (xs.map (·.data.toList)) [32]).length ≤ 140737488355328 := by
    have : J.size = (Lib.join (xs.map (·.data.toList)) [32]).length := by rw [← hJ]; rfl
    omega
  have HJ := Lib.hid (Tryd.strings_Join b 0 c xs ⟨#[32]⟩ _ hce2 hb2 (by omega) (by omega) hl2)
  rw [hn] at HJ
  have hJ2 : (⟨(Lib.join (xs.map (·.data.toList)) (⟨#[32]⟩ : ByteArray).data.toList).toArray⟩ : ByteArray) = J := hJ
  rw [hJ2] at HJ
  clear hcells hce2 hl2 hJ2 hJ hn
  go_enter Tryd.func41, Tryd.ntmps41
  go_wp2_with fail
  refine HJ.out.mono ?_
  rintro e w1 ⟨rfl, hb1⟩
  have hz : W.heap.size < (W.alloc (.cells #[.string ⟨#[]⟩, .int .i64 0, .string ⟨#[]⟩, .bool false, .string ⟨#[]⟩] 41)).heap.size := by simp
  have B1 := Lib.hid (((Below.refl W.heap.size W).alloc (Nat.le_refl _) (.cells #[.string ⟨#[]⟩, .int .i64 0, .string ⟨#[]⟩, .bool false, .string ⟨#[]⟩] 41)).trans (hb1.mono (Nat.le_of_lt hz)))
  have c0 : w1.cell? ⟨W.heap.size, 0, none⟩ = some (.string ⟨#[]⟩) := (hb1.cell (p := ⟨W.heap.size, 0, none⟩) hz).trans (by simp [World.cell?_alloc_new])
  have c1 : w1.cell? ⟨W.heap.size, 1, none⟩ = some (.int .i64 0) := (hb1.cell (p := ⟨W.heap.size, 1, none⟩) hz).trans (by simp [World.cell?_alloc_new])
  have c2 : w1.cell? ⟨W.heap.size, 2, none⟩ = some (.string ⟨#[]⟩) := (hb1.cell (p := ⟨W.heap.size, 2, none⟩) hz).trans (by simp [World.cell?_alloc_new])
  have c3 : w1.cell? ⟨W.heap.size, 3, none⟩ = some (.bool false) := (hb1.cell (p := ⟨W.heap.size, 3, none⟩) hz).trans (by simp [World.cell?_alloc_new])
  have c4 : w1.cell? ⟨W.heap.size, 4, none⟩ = some (.string ⟨#[]⟩) := (hb1.cell (p := ⟨W.heap.size, 4, none⟩) hz).trans (by simp [World.cell?_alloc_new])
  have f0 : w1.frozen? ⟨W.heap.size, 0, none⟩ = false := (hb1.frozen (p := ⟨W.heap.size, 0, none⟩) hz).trans (by simp [go_sem])
  have f1 : w1.frozen? ⟨W.heap.size, 1, none⟩ = false := (hb1.frozen (p := ⟨W.heap.size, 1, none⟩) hz).trans (by simp [go_sem])
  have f2 : w1.frozen? ⟨W.heap.size, 2, none⟩ = false := (hb1.frozen (p := ⟨W.heap.size, 2, none⟩) hz).trans (by simp [go_sem])
  have f3 : w1.frozen? ⟨W.heap.size, 3, none⟩ = false := (hb1.frozen (p := ⟨W.heap.size, 3, none⟩) hz).trans (by simp [go_sem])
  have f4 : w1.frozen? ⟨W.heap.size, 4, none⟩ = false := (hb1.frozen (p := ⟨W.heap.size, 4, none⟩) hz).trans (by simp [go_sem])
  clear hb1
  go_wp2_with fail
  refine bodyPost_ret (v := .agg #[.string name, .int .i64 form, .string J, .bool false, .string ⟨#[]⟩]) (by simp [results, Tryd.results41, go_sem, c0, c1, c2, c3, c4, f0, f1, f2, f3, f4]) rfl ⟨rfl, ?_⟩
  exact ((((B1.out.setCell (p := ⟨W.heap.size, 0, none⟩) (Nat.le_refl _) _).setCell (p := ⟨W.heap.size, 1, none⟩) (Nat.le_refl _) _).setCell (p := ⟨W.heap.size, 2, none⟩) (Nat.le_refl _) _).setCell (p := ⟨W.heap.size, 3, none⟩) (Nat.le_refl _) _).setCell (p := ⟨W.heap.size, 4, none⟩) (Nat.le_refl _) _

set_option maxHeartbeats 1000000 in
theorem must_any (a c d : ByteArray) (b : Int) (q : Bool) (W : World) : Calls Tryd.prog 40 #[.agg #[.string a, .int .i64 b, .string c, .bool q, .string d]] W fun e w' => e = .returned (.agg #[.string a, .int .i64 b, .string c, .bool true, .string d]) ∧ Below W.heap.size W w' := by
  go_enter Tryd.func40, Tryd.ntmps40
  go_wp2_with fail
  exact bodyPost_ret (v := .agg #[.string a, .int .i64 b, .string c, .bool true, .string d]) (by simp [results, Tryd.results40, go_sem]) rfl ⟨rfl, ((Below.refl _ _).alloc (Nat.le_refl _) _).alloc (by simp) _⟩
set_option maxHeartbeats 1000000 in
theorem or_any (a c d d' : ByteArray) (b : Int) (q : Bool) (W : World) : Calls Tryd.prog 53 #[.agg #[.string a, .int .i64 b, .string c, .bool q, .string d], .string d'] W fun e w' => e = .returned (.agg #[.string a, .int .i64 b, .string c, .bool q, .string d']) ∧ Below W.heap.size W w' := by
  go_enter Tryd.func53, Tryd.ntmps53
  go_wp2_with fail
  exact bodyPost_ret (v := .agg #[.string a, .int .i64 b, .string c, .bool q, .string d']) (by simp [results, Tryd.results53, go_sem]) rfl ⟨rfl, ((Below.refl _ _).alloc (Nat.le_refl _) _).alloc (by simp) _⟩
end Go.Proofs.YtijpbfafkdpolaaDoor
