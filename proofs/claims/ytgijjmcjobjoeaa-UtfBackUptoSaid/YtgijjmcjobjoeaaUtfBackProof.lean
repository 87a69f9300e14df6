/-
  The statement UtfBackUptoSaid is proved here: for every input that the row speaks of, the Go function UtfBack returns true and its arguments read as they did.
  No condition beyond the row's own. (The frame is written by wip/tools/mkproof.py.)
-/
import Derived.Test.YtgijjmcjobjoeaaBulk
import Derived.Test.YtgijjmcjobjoeaaMem
import Derived.Test.YtgijjmcjobjoeaaU18
import Derived.WalkKit
import Derived.ProofKit
import Derived.OpenShut
import Derived.ShutString
import Derived.ChangeOld
import Derived.Below
import Derived.SizedLaws
import Derived.SliceStrings
import Derived.Lib.SmallJoins
import Derived.JoinedCond
import Derived.Deep.CondSized
namespace Go.Proofs.Ytgijjmcjobjoeaa.utfBack
open Go.ChangeShapes Go.WideShapes Go.ChangeAt Go.RowKit Go.WideMaps Go.WideElems Go.Joins
open Go.ChangeMaps (open_string shut_string)
set_option linter.unusedVariables false
theorem own : ownKnob Try.prog.godebug = none := by kernel_rfl
theorem laidOut : laidOutB Try.prog = true := by kernel_rfl
theorem reach_eq : reachBytes = 140737488351232 := by decide
theorem cells21 : Try.prog.cellsOf 21 = 1 := by kernel_rfl
theorem bytes21 : Try.prog.bytesOf 21 = 4 := by kernel_rfl

set_option maxHeartbeats 1000000 in
theorem contract (H : Type) (enc : TypeId × Value → H) (W : World) (base : Nat) (args : Array Value) (ds gs : List (DataW H)) (before : List MemPlace)
    (hval : ∀ (j : Nat) t v, Try.f13.params[j]? = some t → args[j]? = some v → Value.okWide Try.prog W .any base t v)
    (hW : DataW.Whole enc Try.prog Try.f13.params.toList Rows.utfBackSpec.vars false W args.toList ds gs before)
    (hsz0 : (DataW.weightsEach Try.prog (Try.f13.params.toList ++ Rows.utfBackSpec.plain.varTypes Try.prog) (ds ++ gs)).all (· ≤ reachBytes) = true) (hk : Rows.uptoSmall H (ds ++ gs) = true) :
    Calls Try.prog 13 args W fun e W' => ∃ v, e = .returned v ∧ Rows.utfBackSpec.post enc Try.prog Try.f13 false true false false W args v W' := by
  have hsz := hsz0
  clear hsz0
  have hW' := hW
  obtain ⟨p, q, hA0, hV, rfl, _, _⟩ := hW
  have hA : DataW.TrodAll enc Try.prog W 0 (fun _ => true) true Try.f13.params.toList args.toList ds p := hA0
  rw [Try.params13] at hA hval hsz
  obtain ⟨v0, vs0, d0, ds0, p0, q0, hargs, rfl, rfl, h0, r0⟩ := trodAll_cons hA
  obtain ⟨v1, vs1, d1, ds1, p1, q1, rfl, rfl, rfl, h1, r1⟩ := trodAll_cons r0
  obtain ⟨rfl, rfl, rfl⟩ := trodAll_nil r1
  obtain rfl : args = #[v0, v1] := by cases args; simp_all
  obtain ⟨rfl, rfl⟩ := trodVars_none hV
  have k0 := h0
  have lt0 : ∀ x ∈ p0, x.block < W.heap.size := by obtain ⟨m, hm⟩ := k0; exact DataW.trod_lt m _ _ _ hm
  have k1 := h1
  have lt1 : ∀ x ∈ p1, x.block < W.heap.size := by obtain ⟨m, hm⟩ := k1; exact DataW.trod_lt m _ _ _ hm
  obtain ⟨A0, len0, cap0, rfl⟩ := okWide_slice Try.underlying47 (hval 0 47 v0 rfl rfl)
  obtain ⟨xs0, hx0, hn0, hc0, hr0, he0, hw0, hu0⟩ : ∃ xs : List Int, Rd W W.heap.size A0 (xs.map (Value.int .i32)) ∧ xs.length = len0 ∧ len0 ≤ cap0 ∧ cap0 * 4 ≤ 140737488351232 ∧ (A0 = none → len0 = 0) ∧ (∀ n ∈ xs, (-2147483648 : Int) ≤ n ∧ n ≤ 2147483647) ∧ cap0 ≤ 1048575 := by
    obtain ⟨fuel, hf⟩ := h0
    rcases open_ints Try.underlying47 Try.underlying21 cells21 hf with ⟨hcs, hx⟩ | ⟨a, len', cap', ss, hcs, _, hl, hm, hz, hx, hcell, hwf⟩
    · simp [Value.cells] at hcs
      obtain ⟨rfl, rfl, rfl⟩ := hcs
      exact ⟨[], Rd.nil, rfl, Nat.le_refl _, by omega, fun _ => rfl, (fun n hn => by cases hn), Nat.zero_le _⟩
    · simp [Value.cells] at hcs
      obtain ⟨rfl, rfl, rfl⟩ := hcs
      simp only [Prod.mk.injEq] at hx
      obtain ⟨hd, _⟩ := hx
      have hz' : ss.length = cap0 := by simpa using hz
      have hsl := sized_slice hsz (j := 0) (t := 47) (e := 21) rfl (by rw [← hd]; rfl) Try.underlying47
      rw [bytes21, reach_eq] at hsl
      simp only [lits, List.length_map, List.length_take, List.length_drop] at hsl
      refine ⟨ss.take len0, rd_of_cells ?_, by rw [List.length_take]; omega, hl, by omega, (fun h => by cases h), fun n hn => ?_, ?_⟩
      · intro i v hv
        rw [List.getElem?_map, Option.map_eq_some_iff] at hv
        obtain ⟨s, hs, rfl⟩ := hv
        rw [List.getElem?_take] at hs
        split at hs
        · rw [hcell i (by omega), List.getD, hs]; rfl
        · cases hs
      · have := hwf n (List.mem_of_mem_take hn)
        simpa [Lit.wf, IntKind.min, IntKind.max, IntKind.signed, IntKind.bits] using this
      · have hs := bulk.small_slice hk (x := lits .i32 (ss.take len0)) (y := lits .i32 (ss.drop len0)) (by rw [hd]; simp)
        simp only [lits, List.length_map, List.length_take, List.length_drop] at hs
        omega
  obtain ⟨s1, rfl, rfl, rfl, ws1⟩ := open_string Try.underlying9 (hval 1 9 v1 rfl rfl) h1
  have b1 : s1.size ≤ 140737488351232 := by
    have h := sized_string hsz (j := 1) rfl rfl
    rw [reach_eq] at h
    simpa using h
  have u1 : s1.size ≤ 1048575 := by simpa using bulk.small_str hk (b := s1.data.toList) (by simp)
  clear hA0
  simp only [List.append_nil] at hW'
  refine (utfBack_walk A0 len0 cap0 xs0 s1 W hx0 hn0 hc0 hr0 he0 hw0 hu0 b1 u1).mono fun e W' ⟨he, bel⟩ => ?_
  subst he
  exact ⟨_, rfl, _, _, _, [], _, [], hW', trodAll_mk1 (shut_bool Try.underlying4 _), (trodAll_cons_mk (Below.trod laidOut (by kernel_rfl) (of_decide_eq_true (by kernel_rfl)) k0 bel lt0) (trodAll_cons_mk (Below.trod laidOut (by kernel_rfl) (of_decide_eq_true (by kernel_rfl)) k1 bel lt1) trodAll_mk0)), rfl, bel.frame _, fun h => by cases h⟩

set_option maxRecDepth 100000 in
theorem lifted (os : Os) (started : os.Started) (H : Type) (enc : TypeId × Value → H) (F : Stop.Interp) :
    ReturnsInHanded {} Try.checked os 13 .any ((Rows.OpenSpec.upto Rows.utfBackSpec).pre6 enc Try.prog Try.f13 Rows.utfBackUptoRow.domain false) (((Rows.OpenSpec.upto Rows.utfBackSpec).at F).post enc Try.prog Try.f13 false true false false) := by
  refine returnsInHanded_of_cond_sized (C := Try.checked) (s := Rows.OpenSpec.upto Rows.utfBackSpec) (k := Rows.uptoSmall) rfl own started (by kernel_rfl) Try.func13
    (OpenSpec.witness (enc := enc) (C := Try.checked) (s := Rows.OpenSpec.upto Rows.utfBackSpec) (k := Rows.uptoSmall) rfl false ⟨#[], #[.slice none 0 0, .string ByteArray.empty], []⟩ 8 (by kernel_rfl) (by kernel_rfl) (by kernel_rfl)
      (x := ([.nil, .lit (.string [])], [], [])) (by kernel_rfl) rfl (by kernel_rfl)) ?_
  intro W base args ds gs before hval hW _ hk hsz _
  exact contract H enc W base args ds gs before hval hW hsz hk

theorem over : Rows.utfBackUptoRow.holds Try.pinned (Rows.OpenSpec.upto Rows.utfBackSpec) :=
  OpenClaim.holds_of_cond 13 Try.f13 rfl rfl rfl rfl rfl rfl rfl ⟨rfl, rfl, rfl, rfl, rfl⟩ rfl rfl rfl rfl rfl (by kernel_rfl) Try.func13 (by kernel_rfl)
    (of_decide_eq_true (by kernel_rfl)) (by unfold Func.isWrapper; first | (rw [if_pos (by decide +kernel)]; kernel_rfl) | (rw [if_neg (by decide +kernel)]; exact ⟨rfl, rfl⟩))
    (fun os started H enc _ F => lifted os started H enc F)

end Go.Proofs.Ytgijjmcjobjoeaa.utfBack
namespace Go.Proofs.Ytgijjmcjobjoeaa
theorem utfBack_holds : Rows.UtfBackUptoSaid := utfBack.over
end Go.Proofs.Ytgijjmcjobjoeaa
