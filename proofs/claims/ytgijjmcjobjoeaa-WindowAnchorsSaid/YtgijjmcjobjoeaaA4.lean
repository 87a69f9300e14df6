import Derived.Test.YtgijjmcjobjoeaaA3
import Derived.Deep.DeepCutAuto
import Derived.Deep.CutBlock
namespace Go.Proofs.Ytgijjmcjobjoeaa
open Go.RowKit

theorem nearF_bd (n : Int) : -9007199254740991 ≤ nearF n ∧ nearF n ≤ 9007199254740991 := by
  unfold nearF; repeat' split
  all_goals omega

def mxF (a b : Int) : Int := if b > a then b else a
def mnF (a b : Int) : Int := if b < a then b else a
theorem run_mx (ts : Array TypeId) (t : TypeId) (x y : Int) (w : World) : (Builtin.max_ ts t #[.int .i64 x, .int .i64 y]).run Try.prog w = .ok (.int .i64 (mxF x y)) w := by
  rw [run_max_int2]; rfl
theorem run_mn (ts : Array TypeId) (t : TypeId) (x y : Int) (w : World) : (Builtin.min_ ts t #[.int .i64 x, .int .i64 y]).run Try.prog w = .ok (.int .i64 (mnF x y)) w := by
  rw [run_min_int2]; rfl
theorem mxF_bd (a b : Int) : a ≤ mxF a b ∧ b ≤ mxF a b ∧ (mxF a b ≤ a ∨ mxF a b ≤ b) := by unfold mxF; split <;> omega
theorem mnF_bd (a b : Int) : mnF a b ≤ a ∧ mnF a b ≤ b ∧ (a ≤ mnF a b ∨ b ≤ mnF a b) := by unfold mnF; split <;> omega

/-- the window that begins at F -/
def cutAt (xs : List ByteArray) (F lim : Int) : List ByteArray × Int × Int :=
  ((xs.drop F.toNat).take (if nearF lim < 0 then xs.length else (nearF lim).toNat), F, 0)
/-- what is answered: the ids, where they begin, and why not -/
def cutF (xs : List ByteArray) (pos off lim : Int) (anc : ByteArray) : List ByteArray × Int × Int :=
  if anc.toList.isEmpty = true then cutAt xs (if nearF pos < 0 then mxF (xs.length + nearF pos) 0 else nearF pos) lim
  else if idxF xs anc < 0 then ([], 0, 220)
  else cutAt xs (mnF (mxF (idxF xs anc + nearF off) 0) 9007199254740991) lim
theorem idxF_bd (xs : List ByteArray) (v : ByteArray) : -1 ≤ idxF xs v ∧ idxF xs v ≤ xs.length := by
  have := idxN_le v xs
  unfold idxF; split <;> omega

def CutPost (B0 : Nat) (w : World) (r : List ByteArray × Int × Int) (e : Ending) (w' : World) : Prop :=
  ∃ A c, e = .returned (.tuple #[.slice A r.1.length c, .int .i64 r.2.1, .int .i64 r.2.2]) ∧ w'.ownsRow B0 9 1 (.slice A r.1.length c) r.1.length (r.1.map Value.string) ∧ Below B0 w w'

theorem cut_list (xs : List ByteArray) (n f l : Nat) (L : Nat) (hn : xs.length = n) (F : Nat) (hf : f = min F n) (hl : l = min (f + L) n) : (xs.drop f).take (l - f) = (xs.drop F).take L := by
  subst hf hl hn
  apply List.ext_getElem?
  intro j
  simp only [List.getElem?_take, List.getElem?_drop]
  by_cases hF : F ≤ xs.length
  · rw [Nat.min_eq_left hF]
    by_cases h1 : j < L
    · rw [if_pos h1]
      by_cases h2 : j < min (F + L) xs.length - F
      · rw [if_pos h2]
      · rw [if_neg h2, List.getElem?_eq_none (by omega)]
    · rw [if_neg h1, if_neg (by omega)]
  · rw [if_neg (by omega)]
    split
    · rw [List.getElem?_eq_none (by omega)]
    · rfl

set_option maxHeartbeats 1000000 in
theorem cut_any (A : Option Addr) (n ca B : Nat) (xs : List ByteArray) (pos off lim : Int) (anc : ByteArray) (w : World) (hx : Rd w B A (xs.map Value.string))
    (hn : xs.length = n) (bn : n * 16 ≤ 140737488351232) (hcap : n ≤ ca) (hcap2 : ca * 16 ≤ 140737488351232) (h0 : A = none → n = 0) (hB : B ≤ w.heap.size)
    (bp : -9223372036854775808 ≤ pos ∧ pos ≤ 9223372036854775807) (bo : -9223372036854775808 ≤ off ∧ off ≤ 9223372036854775807) (bl : -9223372036854775808 ≤ lim ∧ lim ≤ 9223372036854775807) :
    Calls Try.prog 14 #[.slice A n ca, .agg #[.int .i64 pos, .string anc, .int .i64 off, .int .i64 lim]] w (CutPost w.heap.size w (cutF xs pos off lim anc)) := by
  have hi := idxF_bd xs anc
  rw [hn] at hi
  have Hn := Lib.hid hn
  have Hx := Lib.hid hx
  have H0 := Lib.hid h0
  clear hx hn h0
  have n1 := nearF_bd pos
  have n2 := nearF_bd off
  have n3 := nearF_bd lim
  have rmx := run_mx
  have rmn := run_mn
  go_enter Try.func14, Try.ntmps14
  go_upto_block 0 with (first
    | (go_at_call 28; refine (near_any _ _ (by omega)).mono ?_; rintro e w' ⟨rfl, rfl⟩))
  go_cut [8] (fun s8 wx => ∃ F : Int, s8 = .int .i64 F ∧ 0 ≤ F ∧ F ≤ 9007199254740991 ∧ cutF xs pos off lim anc = cutAt xs F lim ∧ wx = w.alloc (.cells #[.int .i64 pos, .string anc, .int .i64 off, .int .i64 lim] 28))
  case first =>
    go_wp2_with (first
    | (go_at_call 28; refine (near_any _ _ (by omega)).mono ?_; rintro e w' ⟨rfl, rfl⟩)
    | (go_at_call 29; refine (idx_any A n ca B xs anc _ ?_ Hn.out (by omega)).mono ?_; exact (Hx.out.keep fun p hp => World.cell?_alloc_lt w _ p (by omega)); rintro e w' ⟨rfl, rfl⟩))
    · have h1 : (!anc.toList.isEmpty) = true := by assumption
      have h2 : idxF xs anc < 0 := by assumption
      go_ret3
      have h3 : cutF xs pos off lim anc = ([], 0, 220) := by
        unfold cutF
        rw [if_neg (by simpa using h1), if_pos h2]
      rw [h3]
      exact ⟨none, 0, rfl, World.ownsRow_nil _ _ _ _, (Below.refl _ _).alloc (Nat.le_refl _) _⟩
    · have h1 : (!anc.toList.isEmpty) = true := by assumption
      have h2 : 0 ≤ idxF xs anc := by assumption
      go_meet
      have b1 := mxF_bd (idxF xs anc + nearF off) 0
      have b2 := mnF_bd (mxF (idxF xs anc + nearF off) 0) 9007199254740991
      refine ⟨_, rfl, by omega, by omega, ?_, rfl⟩
      unfold cutF
      rw [if_neg (by simpa using h1), if_neg (by omega)]
    · have h1 : (!anc.toList.isEmpty) = false := by assumption
      have h2 : nearF pos < 0 := by assumption
      go_meet
      have b1 := mxF_bd (n + nearF pos) 0
      refine ⟨_, rfl, by omega, by omega, ?_, rfl⟩
      unfold cutF
      rw [if_pos (by simpa using h1), if_pos h2, Hn.out]
    · have h1 : (!anc.toList.isEmpty) = false := by assumption
      have h2 : 0 ≤ nearF pos := by assumption
      go_meet
      refine ⟨_, rfl, by omega, by omega, ?_, rfl⟩
      unfold cutF
      rw [if_pos (by simpa using h1), if_neg (by omega)]
  case rest =>
    obtain ⟨F, rfl, hF1, hF2, hF3, rfl⟩ := hcut
    have HF := Lib.hid hF3
    clear hF3
    go_upto_if 46 with (first
      | (go_at_call 28; refine (near_any _ _ (by omega)).mono ?_; rintro e w' ⟨rfl, rfl⟩))
    go_cut [10] (fun s10 wx => ∃ L : Nat, s10 = .int .i64 L ∧ L ≤ 9007199254740991 ∧ L = (if nearF lim < 0 then xs.length else (nearF lim).toNat) ∧ wx = w.alloc (.cells #[.int .i64 pos, .string anc, .int .i64 off, .int .i64 lim] 28))
    case first =>
      go_wp2
      · have h2 : nearF lim < 0 := by assumption
        go_meet
        exact ⟨n, rfl, by omega, by rw [if_pos h2, Hn.out], rfl⟩
      · have h2 : 0 ≤ nearF lim := by assumption
        go_meet
        refine ⟨(nearF lim).toNat, ?_, by omega, by rw [if_neg (by omega)], rfl⟩
        rw [Int.toNat_of_nonneg h2]
    case rest =>
      obtain ⟨L, rfl, hL1, hL2, rfl⟩ := hcut
      have HL := Lib.hid hL2
      clear hL2
      obtain ⟨f, hf⟩ : ∃ f : Nat, mnF F n = (f : Int) := ⟨(mnF F n).toNat, by have := mnF_bd F n; omega⟩
      obtain ⟨l, hl⟩ : ∃ l : Nat, mnF ((f : Int) + L) n = (l : Int) := ⟨(mnF ((f : Int) + L) n).toNat, by have := mnF_bd ((f : Int) + L) n; omega⟩
      have b1 := mnF_bd F n
      have b2 := mnF_bd ((f : Int) + L) n
      rw [hf] at b1
      rw [hl] at b2
      have c1 : f ≤ n := by omega
      have c2 : l ≤ n := by omega
      have c3 : f ≤ l := by omega
      have Hl : Hid ((xs.drop f).take (l - f) = (xs.drop F.toNat).take L) := Lib.hid (cut_list xs n f l L Hn.out F.toNat (by omega) (by omega))
      have Hlen : Hid (((xs.drop f).take (l - f)).length = l - f) := Lib.hid (by rw [List.length_take, List.length_drop, Hn.out]; omega)
      clear b1 b2
      have Hrd : ∀ A', A' = (if ca = f then A else A.map (·.add f)) → Rd (w.alloc (.cells #[.int .i64 pos, .string anc, .int .i64 off, .int .i64 lim] 28)) B A' (((xs.drop f).take (l - f)).map Value.string) := by
        rintro _ rfl
        rw [List.map_take, List.map_drop]
        have hl := Hn.out
        exact (Hx.out.cut (by rw [List.length_map]; omega) (by rw [List.length_map]; omega)).keep fun p hp => World.cell?_alloc_lt w _ p (by omega)
      have Hno : ∀ A', A' = (if ca = f then A else A.map (·.add f)) → A' = none → l - f = 0 := by
        rintro _ rfl h
        rcases Nat.eq_zero_or_pos (l - f) with h0 | h0
        · exact h0
        · rw [if_neg (by omega)] at h
          have := H0.out (by simpa using h)
          omega
      have Hrd := Lib.hid Hrd
      have Hno := Lib.hid Hno
      go_wp2_with (first
        | (go_at_call 30; refine (clone_any _ _ _ B _ _ (Hrd.out _ ?_) Hlen.out (by omega) (Hno.out _ ?_) (by simp; omega)).mono ?_; (simp [*]); (simp [*]); rintro e w' ⟨A', c', rfl, ho, hb⟩))
      all_goals
        go_ret3
        have h3 : cutF xs pos off lim anc = ((xs.drop f).take (l - f), F, 0) := by
          rw [HF.out, Hl.out, HL.out]; rfl
        rw [h3]
        refine ⟨A', c', ?_, ?_, ?_⟩
        · rw [Hlen.out]; rfl
        · rw [Hlen.out]
          exact own_base ho (by simp)
        · exact ((Below.refl _ _).alloc (Nat.le_refl _) _).trans (hb.mono (by simp))
end Go.Proofs.Ytgijjmcjobjoeaa
