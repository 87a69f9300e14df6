import Derived.Test.YtebfnglhbfkkdaaDoorRows
namespace Go.Proofs.YtebfnglhbfkkdaaDoor.bulk
/-- what the second form's bound says of the parts -/
theorem le_one {H : Type} (d : DataW H) : 1 ≤ Rows.uptoBulk d := by
  cases d with
  | lit l => cases l <;> simp [Rows.uptoBulk]
  | _ => simp [Rows.uptoBulk]
theorem le_len {H : Type} : ∀ (l : List (DataW H)), l.length ≤ Rows.uptoBulkAll l
  | [] => by simp [Rows.uptoBulkAll]
  | d :: l => by
    have h1 := le_one d
    have h2 := le_len l
    simp only [Rows.uptoBulkAll, List.length_cons]
    omega
theorem le_all {H : Type} {d : DataW H} : ∀ {l : List (DataW H)}, d ∈ l → Rows.uptoBulk d ≤ Rows.uptoBulkAll l
  | [], h => by cases h
  | x :: l, h => by
    simp only [Rows.uptoBulkAll]
    rcases List.mem_cons.1 h with rfl | h
    · omega
    · have := le_all h; omega
theorem small {H : Type} {l : List (DataW H)} (h : Rows.uptoSmall H l = true) {d : DataW H} (hd : d ∈ l) : Rows.uptoBulk d ≤ 1048576 := by
  have h1 : Rows.uptoBulkAll l ≤ 1048576 := of_decide_eq_true h
  have h2 := le_all hd
  omega
theorem small_str {H : Type} {l : List (DataW H)} (h : Rows.uptoSmall H l = true) {b : List UInt8} (hd : DataW.lit (H := H) (.string b) ∈ l) : b.length ≤ 1048575 := by
  have := small h hd
  simp only [Rows.uptoBulk] at this
  omega
theorem small_slice {H : Type} {l : List (DataW H)} (h : Rows.uptoSmall H l = true) {x y : List (DataW H)} (hd : DataW.slice (H := H) x y ∈ l) : x.length + y.length ≤ 1048575 := by
  have h1 := small h hd
  have h2 := le_len x
  have h3 := le_len y
  simp only [Rows.uptoBulk] at h1
  omega
end Go.Proofs.YtebfnglhbfkkdaaDoor.bulk
