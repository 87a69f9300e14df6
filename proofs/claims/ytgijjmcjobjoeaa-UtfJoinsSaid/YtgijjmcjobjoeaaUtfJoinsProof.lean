/-
  The statement UtfJoinsSaid is proved here: for every input that the row speaks of, the Go function UtfJoins returns true and its arguments read as they did.
  No condition beyond the row's own. (The frame is written by wip/tools/mkproof.py.)
-/
import Derived.Test.YtgijjmcjobjoeaaMem
import Derived.Test.YtgijjmcjobjoeaaU15
import Derived.WalkKit
import Derived.ProofKit
import Derived.OpenShut
import Derived.ShutString
import Derived.ChangeOld
import Derived.Below
import Derived.SizedLaws
import Derived.SliceStrings
import Derived.Lib.SmallJoins
import Derived.JoinedCond
namespace Go.Proofs.Ytgijjmcjobjoeaa.utfJoins
open Go.ChangeShapes Go.WideShapes Go.ChangeAt Go.RowKit Go.WideMaps Go.WideElems Go.Joins
open Go.ChangeMaps (open_string shut_string)
set_option linter.unusedVariables false
theorem own : ownKnob Try.prog.godebug = none := by kernel_rfl
theorem laidOut : laidOutB Try.prog = true := by kernel_rfl
theorem reach_eq : reachBytes = 140737488351232 := by decide
theorem cells21 : Try.prog.cellsOf 21 = 1 := by kernel_rfl
theorem bytes21 : Try.prog.bytesOf 21 = 4 := by kernel_rfl

set_option maxHeartbeats 1000000 in
theorem contract (H : Type) (enc : TypeId × Value → H) (W : World) (base : Nat) (args : Array Value) (ds gs : List (DataW H)) (before : List MemPlace)
    (hval : ∀ (j : Nat) t v, Try.f11.params[j]? = some t → args[j]? = some v → Value.okWide Try.prog W .any base t v)
    (hW : DataW.Whole enc Try.prog Try.f11.params.toList Rows.utfJoinsSpec.vars false W args.toList ds gs before)
    (hsz0 : (DataW.weightsEach Try.prog (Try.f11.params.toList ++ Rows.utfJoinsSpec.plain.varTypes Try.prog) (ds ++ gs)).all (· ≤ reachBytes) = true) :
    Calls Try.prog 11 args W fun e W' => ∃ v, e = .returned v ∧ Rows.utfJoinsSpec.post enc Try.prog Try.f11 false true false false W args v W' := by
  have hsz := hsz0
  clear hsz0
  have hW' := hW
  obtain ⟨p, q, hA0, hV, rfl, _, _⟩ := hW
  have hA : DataW.TrodAll enc Try.prog W 0 (fun _ => true) true Try.f11.params.toList args.toList ds p := hA0
  rw [Try.params11] at hA hval hsz
  obtain ⟨v0, vs0, d0, ds0, p0, q0, hargs, rfl, rfl, h0, r0⟩ := trodAll_cons hA
  obtain ⟨rfl, rfl, rfl⟩ := trodAll_nil r0
  obtain rfl : args = #[v0] := by cases args; simp_all
  obtain ⟨rfl, rfl⟩ := trodVars_none hV
  have k0 := h0
  have lt0 : ∀ x ∈ p0, x.block < W.heap.size := by obtain ⟨m, hm⟩ := k0; exact DataW.trod_lt m _ _ _ hm
  obtain ⟨A0, len0, cap0, rfl⟩ := okWide_slice Try.underlying47 (hval 0 47 v0 rfl rfl)
  obtain ⟨xs0, hx0, hn0, hc0, hr0, he0, hw0⟩ : ∃ xs : List Int, Rd W W.heap.size A0 (xs.map (Value.int .i32)) ∧ xs.length = len0 ∧ len0 ≤ cap0 ∧ cap0 * 4 ≤ 140737488351232 ∧ (A0 = none → len0 = 0) ∧ (∀ n ∈ xs, (-2147483648 : Int) ≤ n ∧ n ≤ 2147483647) := by
    obtain ⟨fuel, hf⟩ := h0
    rcases open_ints Try.underlying47 Try.underlying21 cells21 hf with ⟨hcs, hx⟩ | ⟨a, len', cap', ss, hcs, _, hl, hm, hz, hx, hcell, hwf⟩
    · simp [Value.cells] at hcs
      obtain ⟨rfl, rfl, rfl⟩ := hcs
      exact ⟨[], Rd.nil, rfl, Nat.le_refl _, by omega, fun _ => rfl, (fun n hn => by cases hn)⟩
    · simp [Value.cells] at hcs
      obtain ⟨rfl, rfl, rfl⟩ := hcs
      simp only [Prod.mk.injEq] at hx
      obtain ⟨hd, _⟩ := hx
      have hz' : ss.length = cap0 := by simpa using hz
      have hsl := sized_slice hsz (j := 0) (t := 47) (e := 21) rfl (by rw [← hd]; rfl) Try.underlying47
      rw [bytes21, reach_eq] at hsl
      simp only [lits, List.length_map, List.length_take, List.length_drop] at hsl
      refine ⟨ss.take len0, rd_of_cells ?_, by rw [List.length_take]; omega, hl, by omega, (fun h => by cases h), fun n hn => ?_⟩
      · intro i v hv
        rw [List.getElem?_map, Option.map_eq_some_iff] at hv
        obtain ⟨s, hs, rfl⟩ := hv
        rw [List.getElem?_take] at hs
        split at hs
        · rw [hcell i (by omega), List.getD, hs]; rfl
        · cases hs
      · have := hwf n (List.mem_of_mem_take hn)
        simpa [Lit.wf, IntKind.min, IntKind.max, IntKind.signed, IntKind.bits] using this
  clear hA0
  simp only [List.append_nil] at hW'
  refine (utfJoins_walk A0 len0 cap0 xs0 W hx0 hn0 hc0 hr0 he0 hw0).mono fun e W' ⟨he, bel⟩ => ?_
  subst he
  exact ⟨_, rfl, _, _, _, [], _, [], hW', trodAll_mk1 (shut_bool Try.underlying4 _), (trodAll_cons_mk (Below.trod laidOut (by kernel_rfl) (of_decide_eq_true (by kernel_rfl)) k0 bel lt0) trodAll_mk0), rfl, bel.frame _, fun h => by cases h⟩

set_option maxRecDepth 100000 in
theorem lifted (os : Os) (started : os.Started) (H : Type) (enc : TypeId × Value → H) :
    ReturnsInHanded {} Try.checked os 11 .any (Rows.utfJoinsSpec.pre6 enc Try.prog Try.f11 Rows.utfJoinsRow.domain false) (Rows.utfJoinsSpec.post enc Try.prog Try.f11 false true false false) := by
  refine returnsInHanded_of_change_sized (C := Try.checked) own started (by kernel_rfl) Try.func11
    (ChangeSpec.witness6 (enc := enc) (C := Try.checked) false ⟨#[], #[.slice none 0 0], []⟩ 8 (by kernel_rfl) (by kernel_rfl) (by kernel_rfl) (by kernel_rfl)) ?_
  intro W base args ds gs before hval hW _ hsz _
  exact contract H enc W base args ds gs before hval hW hsz

theorem over : Rows.utfJoinsRow.holds Try.pinned (OpenSpec.ofChange Rows.utfJoinsSpec) :=
  OpenClaim.holds_of_wide 11 Try.f11 rfl rfl rfl rfl rfl rfl rfl ⟨rfl, rfl, rfl, rfl, rfl⟩ rfl rfl rfl rfl rfl (by kernel_rfl) Try.func11 (by kernel_rfl)
    (of_decide_eq_true (by kernel_rfl)) (by unfold Func.isWrapper; first | (rw [if_pos (by decide +kernel)]; kernel_rfl) | (rw [if_neg (by decide +kernel)]; exact ⟨rfl, rfl⟩))
    (fun os started H enc _ => lifted os started H enc)

end Go.Proofs.Ytgijjmcjobjoeaa.utfJoins
namespace Go.Proofs.Ytgijjmcjobjoeaa
theorem utfJoins_holds : Rows.UtfJoinsSaid := utfJoins.over
end Go.Proofs.Ytgijjmcjobjoeaa
