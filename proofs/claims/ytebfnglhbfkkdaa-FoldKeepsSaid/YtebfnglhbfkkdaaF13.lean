import Derived.Test.YtebfnglhbfkkdaaF12
import Derived.Test.YtebfnglhbfkkdaaF6
import Derived.Deep.RegionWith
import Derived.Deep.DeepCutAuto
import Derived.Deep.CutBlock
import Derived.RangeFuncNested
import Derived.RangeFuncBound
import Derived.RangeFuncCalls
import Derived.RangeFuncLeaves
import Derived.OwnWalkIn
import Derived.TacticsInMore
import Derived.LoopNIn
import Derived.LoopIn
namespace Go.Proofs.Ytebfnglhbfkkdaa
open Go.RowKit

/-- how long the text in a box is -/
def szAt (W : World) (B : Nat) : Nat := match W.cell? ⟨B, 0, none⟩ with | some (.string s) => s.size | _ => 0
theorem szAt_eq {W : World} {B : Nat} {q : ByteArray} (h : Box3 W B q) : szAt W B = q.size := by unfold szAt; rw [h.c0]

/-- one step of the terms -/
def Step (q t q' : ByteArray) : Prop := q'.size < q.size ∧ t.size ≤ q.size ∧ termsF q = (if t.size = 0 then [] else [t]) ++ termsF q'

def Cut13 (B : Nat) (q : ByteArray) (pre : List ByteArray) (J : List ByteArray → World → Prop) (s5 : Value) (wx : World) : Prop :=
  ∃ t q', s5 = .string t ∧ Step q t q' ∧ Box3 wx B q' ∧ J pre wx

set_option maxRecDepth 100000
set_option maxHeartbeats 4000000 in
theorem it_any (m l B : Nat) (q : ByteArray) (hq : q.size ≤ 1000000) (J : List ByteArray → World → Prop)
    (hJd : ∀ s W n, J s W → J s (W.drewN n)) (hJs : ∀ s W v, J s W → J s (W.setCell ⟨B, 0, none⟩ v))
    (hY : ∀ pre x W q', J pre W → Box3 W B q' → pre.length < (termsF q).length → YieldAt Fence.wide m Try.prog l #[.string x] W fun e W' => e = .returned (.bool true) ∧ J (pre ++ [x]) W' ∧ Box3 W' B q')
    (W : World) (hb : Box3 W B q) (h0 : J [] W) :
    Calls Try.prog 32 #[.func (.yield l) #[] #[], .pointer (some ⟨B, 0, none⟩), .pointer (some ⟨B + 1, 0, none⟩), .pointer (some ⟨B + 1 + 1, 0, none⟩)] W fun e W' => (∃ v, e = .returned v) ∧ J (termsF q) W' := by
  have HJd := Lib.hid hJd
  have HJs := Lib.hid hJs
  have HY := Lib.hid hY
  clear hJd hJs hY
  go_enter Try.func32, Try.ntmps32
  go_wp2
  go_loopw [] (fun wr => ∃ (pre : List ByteArray) (q' : ByteArray), Hid (termsF q = pre ++ termsF q') ∧ q'.size ≤ q.size ∧ Hid (Box3 wr B q') ∧ Hid (J pre wr)) (fun wr => szAt wr B)
  case atStart => exact ⟨[], q, Lib.hid rfl, Nat.le_refl _, Lib.hid hb, Lib.hid h0⟩
  case round =>
    obtain ⟨pre, q', Hpre, hsz, Hb, Hj⟩ := hrel
    have c0 := Hb.out.c0
    have f0 := Hb.out.f0
    by_cases hq0 : q'.size = 0
    · have hE : q'.toList = [] := by rw [ByteArray.toList_eq]; exact List.eq_nil_of_length_eq_zero (by simpa using hq0)
      have Hr : Hid (J (termsF q) wr) := Lib.hid (by rw [Hpre.out, termsF_nil q' hq0, List.append_nil]; exact Hj.out)
      go_wp2
      go_end0
      exact ⟨⟨_, rfl⟩, Hr.out⟩
    · have hpos : 0 < q'.size := by omega
      have hE : (!q'.toList.isEmpty) = true := by
        rw [ByteArray.toList_eq]
        have : q'.data.toList ≠ [] := fun e => by
          have e2 : q'.data.toList.length = q'.size := by simp
          rw [e] at e2; simp at e2; omega
        cases h : q'.data.toList with
        | nil => exact absurd h this
        | cons a r => rfl
      have HE := Lib.hid hE
      have Hsz := Lib.hid (szAt_eq Hb.out)
      have z1 := tail_size q' 1
      by_cases h32 : ((q'[0]'hpos).toNat : Int) = 32
      · have b1 : (((q'[0]'hpos).toNat : Int) == 32) = true := beq_iff_eq.2 h32
        have Hp2 : Hid (termsF q = pre ++ termsF (q'.extract 1 q'.size)) := Lib.hid (by rw [Hpre.out, tF_space q' hpos h32])
        have Hb2 := Lib.hid (Hb.out.set (q'.extract 1 q'.size))
        have Hj2 := Lib.hid (HJs.out pre wr (.string (q'.extract 1 q'.size)) Hj.out)
        have Hsz2 := Lib.hid (szAt_eq Hb2.out)
        have Hz1 := Lib.hid z1
        clear z1
        go_wp2
        go_roundw
        case rel => exact ⟨pre, _, Hp2, by have := Hz1.out; omega, Hb2, Hj2⟩
        case measure => rw [Hsz.out, Hsz2.out, Hz1.out]; omega
      · have b1 : (((q'[0]'hpos).toNat : Int) == 32) = false := beq_eq_false_iff_ne.2 h32
        go_upto_block 2 with (fail)
        go_cut [5] (fun s5 wx => Cut13 B q' pre J s5 wx)
        case first =>
          have c1 := Hb.out.c1
          have c2 := Hb.out.c2
          by_cases h34 : ((q'[0]'hpos).toNat : Int) = 34
          · have b2 : (((q'[0]'hpos).toNat : Int) == 34) = true := beq_iff_eq.2 h34
            have HU := Lib.hid (fun w => untilQ_any (q'.extract 1 q'.size) (by omega) w)
            have Htq := Lib.hid (fun e => tF_quote q' (q'.extract 1 q'.size) e hpos h34 rfl)
            have Hz1 := Lib.hid z1
            clear z1 h34 h32
            go_upto_region 7 with (fail)
            go_cut [5] (fun s5 wx => ∃ e, s5 = .string ((q'.extract 1 q'.size).extract 0 e) ∧ e ≤ (q'.extract 1 q'.size).size ∧ NoQ (q'.extract 1 q'.size) 0 e ∧ (∀ hj : e < (q'.extract 1 q'.size).size, (((q'.extract 1 q'.size)[e]'hj).toNat : Int) = 34) ∧ Box3 wx B ((q'.extract 1 q'.size).extract e (q'.extract 1 q'.size).size) ∧ J pre wx)
            case first =>
              go_region_with (go_at_call 33; refine (HU.out _).mono ?_; rintro en w' ⟨e, he1, he2, he3, rfl, n, rfl⟩; have He1 := Lib.hid he1; have He2 := Lib.hid he2; have He3 := Lib.hid he3; clear he1 he2 he3)
              all_goals (go_wp2_with fail)
              all_goals go_meet
              all_goals
                refine ⟨e, rfl, He1.out, He2.out, He3.out, ?_, HJs.out _ _ _ (HJd.out _ _ _ Hj.out)⟩
                rw [← Hz1.out]
                exact (Hb.out.drewN _).set _
            case rest =>
              obtain ⟨e, rfl, he1, he2, he3, hb2, hj2⟩ := hcut
              have He2 := Lib.hid he2
              have He3 := Lib.hid he3
              have Hb2 := Lib.hid hb2
              have Hj2 := Lib.hid hj2
              clear he2 he3 hb2 hj2
              have HS : Hid (Step q' ((q'.extract 1 q'.size).extract 0 e) ((q'.extract 1 q'.size).extract (e + 1) (q'.extract 1 q'.size).size)) := Lib.hid (by
                have h1 := Hz1.out
                refine ⟨by rw [tail_size]; omega, Nat.le_trans (extract_size_le _ _ _) (by omega), ?_⟩
                rw [Htq.out e he1 He2.out He3.out]
                have h2 : ((q'.extract 1 q'.size).extract 0 e).size = e := by rw [ByteArray.size_extract]; omega
                rw [h2]
                by_cases he : e = 0
                · rw [if_neg (by omega), if_pos he]
                · rw [if_pos (by omega), if_neg he])
              have Hex : Hid (((q'.extract 1 q'.size).extract e (q'.extract 1 q'.size).size).extract 1 ((q'.extract 1 q'.size).extract e (q'.extract 1 q'.size).size).size = (q'.extract 1 q'.size).extract (e + 1) (q'.extract 1 q'.size).size) := Lib.hid (by
                apply bytes_ext
                rw [ext_tail, ext_tail, ext_tail (q'.extract 1 q'.size) (e + 1), List.drop_drop])
              have Hr2 : Hid (((q'.extract 1 q'.size).extract e (q'.extract 1 q'.size).size).size = (q'.extract 1 q'.size).size - e) := Lib.hid (tail_size (q'.extract 1 q'.size) e)
              clear Htq HU He2 He3 Hz1
              generalize q'.extract 1 q'.size = r at *
              generalize r.extract e r.size = r2 at *
              have c3 := Hb2.out.c0
              have f3 := Hb2.out.f0
              by_cases her : r2.size = 0
              · have hE2 : r2.toList = [] := by rw [ByteArray.toList_eq]; exact List.eq_nil_of_length_eq_zero (by simpa using her)
                have hr3 : r.extract (e + 1) r.size = r2 := by
                  have h1 := Hr2.out
                  apply bytes_ext
                  rw [ByteArray.toList_eq] at hE2
                  rw [hE2, ext_tail]
                  apply List.drop_eq_nil_of_le
                  have hl : r.data.toList.length = r.size := by simp
                  omega
                have Hr3 := Lib.hid hr3
                clear hr3
                go_wp2
                go_meet
                exact ⟨_, _, rfl, HS.out, by rw [Hr3.out]; exact Hb2.out, Hj2.out⟩
              · have hE2 : (!r2.toList.isEmpty) = true := by
                  rw [ByteArray.toList_eq]
                  cases h : r2.data.toList with
                  | nil =>
                    have e2 : r2.data.toList.length = r2.size := by simp
                    rw [h] at e2; simp at e2; omega
                  | cons a r => rfl
                have hpos2 : 0 < r2.size := by omega
                have Hb3 := Lib.hid (Hb2.out.set (r2.extract 1 r2.size))
                have Hj3 := Lib.hid (HJs.out pre _ (.string (r2.extract 1 r2.size)) Hj2.out)
                go_wp2
                go_meet
                refine ⟨_, _, rfl, HS.out, ?_, Hj3.out⟩
                rw [← Hex.out]
                exact Hb3.out
          · have b2 : (((q'[0]'hpos).toNat : Int) == 34) = false := beq_eq_false_iff_ne.2 h34
            go_wp2_with fail
            refine (untilE_any q' (by omega) _).mono ?_
            rintro en w' ⟨e, he1, he2, he3, rfl, n, rfl⟩
            have He2 := Lib.hid he2
            have He3 := Lib.hid he3
            clear he2 he3
            have Hb2 := Lib.hid ((Hb.out.drewN n).set (q'.extract e q'.size))
            have Hj2 := Lib.hid (HJs.out pre _ (.string (q'.extract e q'.size)) (HJd.out pre wr n Hj.out))
            go_wp2_with fail
            go_meet
            have he0 : 0 < e := tF_word_pos q' e hpos h32 h34 He3.out
            refine ⟨_, _, rfl, ⟨by rw [tail_size]; omega, extract_size_le _ _ _, ?_⟩, Hb2.out, Hj2.out⟩
            rw [if_neg (by rw [ByteArray.size_extract]; omega), tF_word q' e hpos h32 h34 he1 He2.out He3.out]
            rfl
        case rest =>
          obtain ⟨t, q2, rfl, ⟨hs1, hs2, hs3⟩, hb2, hj2⟩ := hcut
          have Hs3 := Lib.hid hs3
          have Hb2 := Lib.hid hb2
          have Hj2 := Lib.hid hj2
          have Hsz2 := Lib.hid (szAt_eq hb2)
          clear hs3 hb2 hj2
          by_cases ht : t.size = 0
          · have hT : t.toList = [] := by rw [ByteArray.toList_eq]; exact List.eq_nil_of_length_eq_zero (by simpa using ht)
            have Hp2 : Hid (termsF q = pre ++ termsF q2) := Lib.hid (by rw [Hpre.out, Hs3.out, if_pos ht]; rfl)
            go_wp2
            go_roundw
            case rel => exact ⟨pre, _, Hp2, by omega, Hb2, Hj2⟩
            case measure => rw [Hsz.out, Hsz2.out]; omega
          · have hT : (!t.toList.isEmpty) = true := by
              rw [ByteArray.toList_eq]
              cases h : t.data.toList with
              | nil =>
                have e2 : t.data.toList.length = t.size := by simp
                rw [h] at e2; simp at e2; omega
              | cons a r => rfl
            have Hp2 : Hid (termsF q = (pre ++ [t]) ++ termsF q2) := Lib.hid (by rw [Hpre.out, Hs3.out, if_neg ht, List.append_assoc])
            obtain ⟨fn, tmps, assign, body, hy, hR⟩ := HY.out pre t wc q2 Hj2.out Hb2.out (by rw [Hp2.out]; simp)
            have HR := Lib.hid hR
            clear hR
            go_upto_region 10 with (fail)
            go_cut [40] (fun s40 wx => s40 = .bool false ∧ Box3 wx B q2 ∧ J (pre ++ [t]) wx)
            case first =>
              refine (wpIn_wide (n := m + 1)).1 ?_
              gi_wp2
              refine HR.out.mono ?_
              rintro e W3 ⟨rfl, hJ3, hb3⟩
              have HJ3 := Lib.hid hJ3
              have Hb3 := Lib.hid hb3
              clear hJ3 hb3
              gi_wp2
              go_meet
              exact ⟨rfl, Hb3.out, HJ3.out⟩
            case rest =>
              obtain ⟨rfl, hb3, hj3⟩ := hcut
              have Hb3 := Lib.hid hb3
              have Hj3 := Lib.hid hj3
              have Hsz3 := Lib.hid (szAt_eq hb3)
              clear hb3 hj3 hy
              go_wp2
              go_roundw
              case rel => exact ⟨_, _, Hp2, by omega, Hb3, Hj3⟩
              case measure => rw [Hsz.out, Hsz3.out]; omega
end Go.Proofs.Ytebfnglhbfkkdaa
