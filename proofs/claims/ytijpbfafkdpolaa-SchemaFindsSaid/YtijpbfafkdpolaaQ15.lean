import Derived.Test.YtijpbfafkdpolaaQ14
namespace Go.Proofs.Ytijpbfafkdpolaa
open Go.RowKit Go.Shelf

set_option maxRecDepth 100000 in
set_option maxHeartbeats 4000000 in
theorem schemaFinds_walk (of name : ByteArray) (W : World) (_h0 : of.size ≤ 140737488351232) (_h1 : name.size ≤ 140737488351232) : Calls Try.prog 4 #[.string of, .string name] W fun e w' => e = .returned (.bool true) ∧ Below W.heap.size W w' := by
  obtain ⟨⟨⟨pa, pb, pc, pq, pd⟩, b⟩, hx⟩ : ∃ x, findF (propsF of) name = x := ⟨_, rfl⟩
  have C1 := Lib.hid (find_at of name pa pc pd pb pq b hx)
  have C2 := Lib.hid (rfind_at of name pa pc pd pb pq b hx)
  clear hx _h0 _h1
  go_enter Try.func4, Try.ntmps4
  go_wp2_with fail
  refine (C1.out _).mono ?_
  rintro e w1 ⟨rfl, hb1⟩
  have z1 := hb1.size
  have B1 := Lib.hid (hb1.alloc hb1.size (.cells #[.string pa, .int .i64 pb, .string pc, .bool pq, .string pd] 31))
  clear hb1
  go_wp2_with fail
  refine (C2.out _).mono ?_
  rintro e w2 ⟨rfl, hb2⟩
  have hz : w1.heap.size < (w1.alloc (.cells #[.string pa, .int .i64 pb, .string pc, .bool pq, .string pd] 31)).heap.size := by simp
  have x0 : w2.cell? ⟨w1.heap.size, 0, none⟩ = some (.string pa) := (hb2.cell (p := ⟨w1.heap.size, 0, none⟩) hz).trans (by simp [World.cell?_alloc_new])
  have x1 : w2.cell? ⟨w1.heap.size, 1, none⟩ = some (.int .i64 pb) := (hb2.cell (p := ⟨w1.heap.size, 1, none⟩) hz).trans (by simp [World.cell?_alloc_new])
  have x2 : w2.cell? ⟨w1.heap.size, 2, none⟩ = some (.string pc) := (hb2.cell (p := ⟨w1.heap.size, 2, none⟩) hz).trans (by simp [World.cell?_alloc_new])
  have x3 : w2.cell? ⟨w1.heap.size, 3, none⟩ = some (.bool pq) := (hb2.cell (p := ⟨w1.heap.size, 3, none⟩) hz).trans (by simp [World.cell?_alloc_new])
  have x4 : w2.cell? ⟨w1.heap.size, 4, none⟩ = some (.string pd) := (hb2.cell (p := ⟨w1.heap.size, 4, none⟩) hz).trans (by simp [World.cell?_alloc_new])
  have hw2 : w1.heap.size < w2.heap.size := Nat.lt_of_lt_of_le hz hb2.size
  have B2 := Lib.hid (B1.out.trans (hb2.mono (by omega)))
  have B3 := Lib.hid (B2.out.alloc (by omega) (.cells #[.string pa, .int .i64 pb, .string pc, .bool pq, .string pd] 32))
  clear hb2 hz
  go_wp2_with fail
  refine (awake_any _).mono ?_
  rintro e w3 ⟨rfl, hb3⟩
  have hz3 : w2.heap.size < (w2.alloc (.cells #[.string pa, .int .i64 pb, .string pc, .bool pq, .string pd] 32)).heap.size := by simp
  have u0 : w3.cell? ⟨w1.heap.size, 0, none⟩ = some (.string pa) := (hb3.cell (p := ⟨w1.heap.size, 0, none⟩) (by show w1.heap.size < _; omega)).trans (by simp [go_sem, hw2, x0])
  have v0 : w3.cell? ⟨w2.heap.size, 0, none⟩ = some (.string pa) := (hb3.cell (p := ⟨w2.heap.size, 0, none⟩) hz3).trans (by simp [World.cell?_alloc_new])
  have u1 : w3.cell? ⟨w1.heap.size, 1, none⟩ = some (.int .i64 pb) := (hb3.cell (p := ⟨w1.heap.size, 1, none⟩) (by show w1.heap.size < _; omega)).trans (by simp [go_sem, hw2, x1])
  have v1 : w3.cell? ⟨w2.heap.size, 1, none⟩ = some (.int .i64 pb) := (hb3.cell (p := ⟨w2.heap.size, 1, none⟩) hz3).trans (by simp [World.cell?_alloc_new])
  have u2 : w3.cell? ⟨w1.heap.size, 2, none⟩ = some (.string pc) := (hb3.cell (p := ⟨w1.heap.size, 2, none⟩) (by show w1.heap.size < _; omega)).trans (by simp [go_sem, hw2, x2])
  have v2 : w3.cell? ⟨w2.heap.size, 2, none⟩ = some (.string pc) := (hb3.cell (p := ⟨w2.heap.size, 2, none⟩) hz3).trans (by simp [World.cell?_alloc_new])
  have u3 : w3.cell? ⟨w1.heap.size, 3, none⟩ = some (.bool pq) := (hb3.cell (p := ⟨w1.heap.size, 3, none⟩) (by show w1.heap.size < _; omega)).trans (by simp [go_sem, hw2, x3])
  have v3 : w3.cell? ⟨w2.heap.size, 3, none⟩ = some (.bool pq) := (hb3.cell (p := ⟨w2.heap.size, 3, none⟩) hz3).trans (by simp [World.cell?_alloc_new])
  have u4 : w3.cell? ⟨w1.heap.size, 4, none⟩ = some (.string pd) := (hb3.cell (p := ⟨w1.heap.size, 4, none⟩) (by show w1.heap.size < _; omega)).trans (by simp [go_sem, hw2, x4])
  have v4 : w3.cell? ⟨w2.heap.size, 4, none⟩ = some (.string pd) := (hb3.cell (p := ⟨w2.heap.size, 4, none⟩) hz3).trans (by simp [World.cell?_alloc_new])
  have B4 := Lib.hid (B3.out.trans (hb3.mono (by omega)))
  have z4 : W.heap.size ≤ w3.heap.size := B4.out.size
  clear hb3 hz3 x0 x1 x2 x3 x4
  cases b
  all_goals
    go_wp2_with fail
    refine (same_any pa pc pd pb pq _).mono ?_
    rintro e w5 ⟨rfl, hb5⟩
    have B5 := Lib.hid (B4.out.trans (hb5.mono z4))
    clear hb5
    go_wp2_with fail
    go_ret
    exact ⟨ret_bool'' (by simp), B5.out⟩
end Go.Proofs.Ytijpbfafkdpolaa
