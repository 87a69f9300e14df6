import Derived.Test.YtgijjmcjobjoeaaU13
import Derived.Test.YtgijjmcjobjoeaaU11
import Derived.Lib.AppendStr
namespace Go.Proofs.Ytgijjmcjobjoeaa
open Go.RowKit

/-- the bytes of the points ahead of the first number that is none -/
def joinB : List Int → List Int
  | [] => []
  | p :: l => if encL p = [] then [] else encL p ++ joinB l
/-- how many they are -/
def joinN : List Int → Nat
  | [] => 0
  | p :: l => if encL p = [] then 0 else joinN l + 1

theorem encL_len (p : Int) : (encL p).length ≤ 4 := by
  unfold encL; repeat' split
  all_goals simp
/-- after k rounds without a stop -/
def goodK (xs : List Int) (k : Nat) : Prop := ∀ p ∈ xs.take k, encL p ≠ []
def bytesK (xs : List Int) (k : Nat) : List Int := (xs.take k).flatMap encL
theorem goodK_step {xs : List Int} {k : Nat} (lx : k < xs.length) (h : goodK xs k) (h1 : encL xs[k] ≠ []) : goodK xs (k + 1) := by
  unfold goodK at *
  rw [take_succ_eq xs k lx]
  intro p hp
  rcases List.mem_append.1 hp with hp | hp
  · exact h p hp
  · rw [List.mem_singleton.1 hp]; exact h1
theorem bytesK_step {xs : List Int} {k : Nat} (lx : k < xs.length) : bytesK xs (k + 1) = bytesK xs k ++ encL xs[k] := by
  unfold bytesK
  rw [take_succ_eq xs k lx, List.flatMap_append]
  simp
theorem flat_len (l : List Int) : (l.flatMap encL).length ≤ 4 * l.length := by
  induction l with
  | nil => simp
  | cons p l ih =>
    have := encL_len p
    rw [List.flatMap_cons, List.length_append, List.length_cons]; omega
theorem bytesK_len (xs : List Int) (k : Nat) : (bytesK xs k).length ≤ 4 * k := by
  have h := flat_len (xs.take k)
  have h2 : (xs.take k).length ≤ k := List.length_take_le k xs
  unfold bytesK; omega
theorem join_stop : ∀ {xs : List Int} {k : Nat} (lx : k < xs.length), goodK xs k → encL xs[k] = [] → joinB xs = bytesK xs k ∧ joinN xs = k := by
  intro xs
  induction xs with
  | nil => intro k lx; simp at lx
  | cons p l ih =>
    intro k lx hg h0
    cases k with
    | zero =>
      simp only [List.getElem_cons_zero] at h0
      simp [joinB, joinN, bytesK, h0]
    | succ k =>
      simp only [List.getElem_cons_succ] at h0
      have hp : encL p ≠ [] := hg p (by simp [List.take_succ_cons])
      have := ih (k := k) (by simpa using lx) (fun q hq => hg q (by rw [List.take_succ_cons]; exact List.mem_cons_of_mem _ hq)) h0
      simp only [joinB, joinN, if_neg hp, this.1, this.2]
      simp [bytesK, List.take_succ_cons]
theorem join_end : ∀ {xs : List Int}, goodK xs xs.length → joinB xs = bytesK xs xs.length ∧ joinN xs = xs.length := by
  intro xs
  induction xs with
  | nil => intro _; simp [joinB, joinN, bytesK]
  | cons p l ih =>
    intro hg
    have hp : encL p ≠ [] := hg p (by simp)
    have := ih (fun q hq => hg q (by rw [List.length_cons, List.take_succ_cons]; exact List.mem_cons_of_mem _ hq))
    simp only [joinB, joinN, if_neg hp, this.1, this.2]
    simp [bytesK]
theorem strCells_nums (xs : List Int) (h : isB xs) : Lib.strCells (strOfNums xs) = xs.map (Value.int .u8) := by
  unfold Lib.strCells
  rw [strOfNums_data, List.map_map]
  apply List.map_congr_left
  intro x hx
  have := h x hx
  simp only [Function.comp_apply, UInt8.toNat_ofNat']
  congr 1
  omega

def JoinPost (B0 : Nat) (w : World) (xs : List Int) (e : Ending) (w' : World) : Prop :=
  e = .returned (.tuple #[.string (strOfNums (joinB xs)), .int .i64 (joinN xs)]) ∧ Below B0 w w'

set_option maxHeartbeats 1000000 in
theorem join_any (A : Option Addr) (n ca B : Nat) (xs : List Int) (w : World) (hx : Rd w B A (xs.map (Value.int .i32)))
    (hn : xs.length = n) (bn : n * 4 ≤ 140737488351232) (hB : B ≤ w.heap.size) (hb : ∀ p ∈ xs, (-2147483648 : Int) ≤ p ∧ p ≤ 2147483647) :
    Calls Try.prog 24 #[.slice A n ca] w (JoinPost w.heap.size w xs) := by
  obtain ⟨i5, hi0, hi1, hi2, hi3⟩ := info_parts info5
  have Hn := Lib.hid hn
  have Hx := Lib.hid hx
  have Hb := Lib.hid hb
  clear hx hn hb
  go_enter Try.func24, Try.ntmps24
  go_wp2
  go_loopw [4, 10] (fun t4 t10 wr => ∃ (k m : Nat), k ≤ n ∧ t10 = .int .i64 k ∧ goodK xs k ∧ (bytesK xs k).length = m ∧ wr.ownsRow w.heap.size 5 1 t4 m ((bytesK xs k).map (Value.int .u8)) ∧ Below w.heap.size w wr) (fun _ t10 _ => n - (intOf t10).toNat)
  case atStart => exact ⟨0, 0, Nat.zero_le _, rfl, fun p hp => by simp at hp, rfl, World.ownsRow_nil _ _ _ _, Below.refl _ _⟩
  case round =>
    obtain ⟨k, m, hk, rfl, hg, hm, hown, hbw⟩ := hrel
    obtain ⟨A1, c1, rfl⟩ := own_form hown
    have hml := bytesK_len xs k
    rw [hm] at hml
    have Hg := Lib.hid hg
    have Hm := Lib.hid hm
    have Hown := Lib.hid hown
    have Hbw := Lib.hid hbw
    have zb := hbw.size
    clear hg hm hown hbw
    by_cases hlt : k < n
    · have lx : k < xs.length := by rw [Hn.out]; exact hlt
      obtain ⟨b, o, rfl, hbB, hc⟩ := Hx.out.at_ (by simp; omega)
      have h1 : wr.cell? ⟨b, o + k, none⟩ = some (.int .i32 xs[k]) := (Hbw.out.cell (p := ⟨b, o + k, none⟩) (by show b < _; omega)).trans (hc k (.int .i32 xs[k]) (by simp [lx]))
      have hpb := Hb.out xs[k] (List.getElem_mem lx)
      have Hst : Hid (encL xs[k] = [] → joinB xs = bytesK xs k ∧ joinN xs = k) := Lib.hid (join_stop lx Hg.out)
      have Hgs : Hid (encL xs[k] ≠ [] → goodK xs (k + 1)) := Lib.hid (goodK_step lx Hg.out)
      have Hbs : Hid (bytesK xs (k + 1) = bytesK xs k ++ encL xs[k]) := Lib.hid (bytesK_step lx)
      clear hc
      generalize xs[k] = p at *
      have hel := encL_len p
      obtain ⟨S, hS⟩ : ∃ S, strOfNums (encL p) = S := ⟨_, rfl⟩
      have hSs : S.size = (encL p).length := by rw [← hS, strOfNums_size]
      have hSz : S.size ≤ 4 := by omega
      have hSc : Lib.strCells S = (encL p).map (Value.int .u8) := by rw [← hS]; exact strCells_nums _ (encL_isB p)
      have hSe : S.toList.isEmpty = (encL p).isEmpty := by rw [← hS]; exact strNums_empty _
      have HS := Lib.hid hS
      have HSs := Lib.hid hSs
      have HSc := Lib.hid hSc
      clear hS hSs hSc hel
      by_cases h0 : encL p = []
      · have e0 : S.toList.isEmpty = true := by rw [hSe, h0]; rfl
        have hst := Hst.out h0
        have Hf := Lib.hid hst
        clear hSe h0 hst
        go_wp2_with fail
        refine (put_any p hpb _).mono ?_
        rw [HS.out]
        rintro e w1 ⟨rfl, hb1⟩
        have hown1 := own_below Hown.out hb1 (Nat.le_refl _)
        have hcv := conv_own hown1
        have Hb1 := Lib.hid (Hbw.out.trans (hb1.mono zb))
        clear hb1 hown1
        go_wp2
        go_ret2
        unfold JoinPost
        rw [Hf.out.1, Hf.out.2]
        exact ⟨rfl, Hb1.out⟩
      · have e0 : S.toList.isEmpty = false := by
          rw [hSe]
          cases hc : encL p with
          | nil => exact absurd hc h0
          | cons x l => rfl
        have hgs := Hgs.out h0
        have Hgs2 := Lib.hid hgs
        clear hSe h0 hgs
        go_wp2_with fail
        refine (put_any p hpb _).mono ?_
        rw [HS.out]
        rintro e w1 ⟨rfl, hb1⟩
        have hown1 := own_below Hown.out hb1 (Nat.le_refl _)
        have Hb1 := Lib.hid (Hbw.out.trans (hb1.mono zb))
        have z1 : w.heap.size ≤ w1.heap.size := Nat.le_trans zb hb1.size
        clear hb1
        go_wp2_with (at_builtin; refine Lib.wpList_append_own_string _ rfl _ _ 42 9 rfl w.heap.size 5 i5 Try.underlying42 Try.underlying9 hi0 hi1 hi2 hi3 _ m _ rfl hown1 S rfl ?c1 ?c2 z1 ?_)
        case c1 => first | omega | (simp only [maxLen]; omega)
        case c2 => omega
        intro v' w2 hown2 hgrow _
        have hb3 := Below.own Hb1.out hown1 hgrow z1 (Nat.le_refl _)
        have hown3 : w2.ownsRow w.heap.size 5 1 v' (m + S.size) ((bytesK xs (k + 1)).map (Value.int .u8)) := by
          rw [Hbs.out, List.map_append, ← HSc.out]; exact hown2
        have hl3 : (bytesK xs (k + 1)).length = m + S.size := by rw [Hbs.out, List.length_append, Hm.out, HSs.out]
        have Hl3 := Lib.hid hl3
        have Hown3 := Lib.hid hown3
        clear hown2 hgrow hown1 hown3 hl3
        go_wp2
        go_roundw
        case rel => exact ⟨k + 1, m + S.size, by omega, by go_num, Hgs2.out, Hl3.out, Hown3.out, hb3⟩
        case measure => simp [intOf]; omega
    · have hkn : k = n := by omega
      have Hkn := Lib.hid hkn
      have hcv := conv_own Hown.out
      have hf := join_end (xs := xs) (by rw [Hn.out, ← hkn]; exact Hg.out)
      rw [Hn.out, ← hkn] at hf
      have Hf := Lib.hid hf
      clear hf hkn
      go_wp2
      go_ret2
      unfold JoinPost
      rw [Hf.out.1, Hf.out.2, Hkn.out]
      exact ⟨rfl, Hbw.out⟩
end Go.Proofs.Ytgijjmcjobjoeaa
