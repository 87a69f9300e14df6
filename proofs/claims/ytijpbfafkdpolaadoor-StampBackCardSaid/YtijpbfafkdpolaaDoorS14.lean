import Derived.Test.YtijpbfafkdpolaaDoorP4
import Derived.Test.YtijpbfafkdpolaaDoorS13
namespace Go.Proofs.YtijpbfafkdpolaaDoor
open Go.RowKit Go.Shelf

def Bel (w w' : World) : Prop := Below w.heap.size w w'
theorem Bel.step {P : Program} {f : FuncId} {args : Array Value} {v : Value} {w w' : World} (h : Calls P f args w' fun e w'' => e = .returned v ∧ Below w'.heap.size w' w'') (hC : Bel w w') :
    Calls P f args w' fun e w'' => e = .returned v ∧ Bel w w'' :=
  h.mono fun _ _ ⟨he, hb⟩ => ⟨he, hC.trans (hb.mono hC.size)⟩
theorem Bel.same {P : Program} {f : FuncId} {args : Array Value} {v : Value} {w w' : World} (h : Calls P f args w' fun e w'' => e = .returned v ∧ w'' = w') (hC : Bel w w') :
    Calls P f args w' fun e w'' => e = .returned v ∧ Bel w w'' :=
  h.mono fun _ _ ⟨he, hb⟩ => ⟨he, hb ▸ hC⟩
theorem wp_region_bel {P : Program} {id : Nat} {Q : Exit → Act → World → Prop} {a : Act} {w : World} {l : List Oper} (hm : P.follows .mixedOrders = true) (hB : Region.lexB .any l.toArray = true)
    (h : wpQuiet P l.toArray (Bel w) (fun a' => ∀ w', Bel w w' → Q .normal a' w') l a) : (Code.region id l.toArray true).wp P Q a w :=
  wp_region_quiet (C := Bel w) hm hB ⟨rfl, rfl, rfl, Nat.le_refl _, fun _ _ => rfl⟩ (by simpa using h)

theorem rep_at (i : Int) (c : Nat) (hi : i = c) (hc : c ≤ 100) (w : World) : Calls Tryd.prog 50 #[.string ⟨#[48]⟩, .int .i64 i] w fun e w' => e = .returned (.string ⟨(Lib.repeatL [48] c).toArray⟩) ∧ Below w.heap.size w w' := by
  subst hi
  exact Tryd.strings_Repeat ⟨#[48]⟩ c w (by omega) (by show 1 * c ≤ _; omega)
theorem len48 (c : Nat) : (Lib.repeatL [48] c).length = c := by rw [Lib.repeatL_length]; simp
theorem trim_len (l cs : List UInt8) : (Lib.trimS l cs).length ≤ l.length := by
  unfold Lib.trimS Lib.trimLeftS Lib.trimRightS
  refine Nat.le_trans (List.dropWhile_sublist _).length_le ?_
  rw [List.length_reverse]
  refine Nat.le_trans (List.dropWhile_sublist _).length_le ?_
  rw [List.length_reverse]
  exact Nat.le_refl _
set_option maxRecDepth 100000 in
set_option maxHeartbeats 2000000 in
theorem part_any (s : ByteArray) (hs : s.size ≤ 140737488355328) (hk : secOK s = true) (w : World) : Calls Tryd.prog 34 #[.string s] w fun e w' => e = .returned (.string (strOfNums (partL s))) ∧ Below w.heap.size w w' := by
  obtain ⟨h1, _, _, _⟩ := sec_tail hk
  have hz : 19 ≤ s.size := by omega
  have hz2 : 20 ≤ s.size := by omega
  have hz3 : s.size ≤ 30 := by omega
  have HT := Lib.hid (part_text hk)
  have HC := Lib.hid (count_point hk)
  clear h1 hk
  obtain ⟨c, hc⟩ : ∃ c : Nat, (if s.size = 20 then 0 else 1) = c := ⟨_, rfl⟩
  have hc1 : c ≤ 1 := by rw [← hc]; split <;> omega
  rw [hc] at HT HC
  clear hc
  have hE : (s.extract 19 s.size).size ≤ 9223372036854775807 := by simp; omega
  obtain ⟨X, hX⟩ : ∃ X : ByteArray, X = ⟨(Lib.trimS (s.extract 19 s.size).data.toList [46, 90]).toArray⟩ := ⟨_, rfl⟩
  obtain ⟨Y, hY⟩ : ∃ Y : ByteArray, Y = ⟨(Lib.repeatL [48] (11 - (s.size - 19) + c)).toArray⟩ := ⟨_, rfl⟩
  have hx : X.size ≤ 30 := by
    rw [hX]
    show (Lib.trimS (s.extract 19 s.size).data.toList [46, 90]).length ≤ 30
    refine Nat.le_trans (trim_len _ _) ?_
    rw [ext_list s hz, List.length_drop]
    show s.size - 19 ≤ 30
    omega
  have hy : Y.size ≤ 30 := by
    rw [hY]
    show (Lib.repeatL [48] (11 - (s.size - 19) + c)).length ≤ 30
    rw [len48]
    omega
  have HTr : ∀ w, Calls Tryd.prog 46 #[.string (s.extract 19 s.size), .string ⟨#[46, 90]⟩] w fun e w' => e = .returned (.string X) ∧ Below w.heap.size w w' := fun w => by
    rw [hX]; exact Tryd.strings_Trim (s.extract 19 s.size) ⟨#[46, 90]⟩ w hE (by decide) (Go.Proofs.ascii_of_all (by decide))
  have HRe : ∀ w, Calls Tryd.prog 50 #[.string ⟨#[48]⟩, .int .i64 (11 - ((s.size - 19 : Nat) : Int) + (c : Int))] w fun e w' => e = .returned (.string Y) ∧ Below w.heap.size w w' := fun w => by
    rw [hY]; exact rep_at _ (11 - (s.size - 19) + c) (by omega) (by omega) w
  have HCo : ∀ w, Calls Tryd.prog 51 #[.string s, .string ⟨#[46]⟩] w fun e w' => e = .returned (.int .i64 c) ∧ w' = w := fun w => by
    rw [← HC.out]; exact Tryd.strings_Count_one s 46 w
  rw [← hX, ← hY] at HT
  have HTr2 := Lib.hid HTr
  have HRe2 := Lib.hid HRe
  have HCo2 := Lib.hid HCo
  clear hX hY HC HTr HRe HCo
  go_enter Tryd.func34, Tryd.ntmps34
  go_wp2_with fail
  refine wp_region_bel (by kernel_rfl) (by kernel_rfl) ?_
  iterate 13 (go_big_quiet_step ((first | (intro _; rfl) | (intro hC; exact Bel.step (HTr2.out _) hC) | (intro hC; exact Bel.same (HCo2.out _) hC) | (intro hC; exact Bel.step (HRe2.out _) hC))))
  refine wpQuiet_nil ?_
  intro w1 hb1
  have Hb1 := Lib.hid hb1
  clear hb1
  go_wp2_with fail
  go_ret
  exact ⟨ret_str HT.out, Hb1.out⟩
theorem part_at (s S : ByteArray) (hS : strOfNums (partL s) = S) (hs : s.size ≤ 140737488355328) (hk : secOK s = true) (w : World) : Calls Tryd.prog 34 #[.string s] w fun e w' => e = .returned (.string S) ∧ Below w.heap.size w w' := by
  subst hS; exact part_any s hs hk w
end Go.Proofs.YtijpbfafkdpolaaDoor
