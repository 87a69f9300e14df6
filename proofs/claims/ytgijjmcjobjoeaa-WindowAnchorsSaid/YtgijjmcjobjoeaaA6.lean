import Derived.Test.YtgijjmcjobjoeaaA5
namespace Go.Proofs.Ytgijjmcjobjoeaa
open Go.RowKit

set_option maxHeartbeats 1000000 in
theorem rcut_any (A : Option Addr) (n ca B : Nat) (xs : List ByteArray) (pos off lim : Int) (anc : ByteArray) (w : World) (hx : Rd w B A (xs.map Value.string))
    (hn : xs.length = n) (bn : n * 16 ≤ 140737488351232) (hB : B ≤ w.heap.size)
    (bp : -9223372036854775808 ≤ pos ∧ pos ≤ 9223372036854775807) (bo : -9223372036854775808 ≤ off ∧ off ≤ 9223372036854775807) (bl : -9223372036854775808 ≤ lim ∧ lim ≤ 9223372036854775807) :
    Calls Try.prog 15 #[.slice A n ca, .agg #[.int .i64 pos, .string anc, .int .i64 off, .int .i64 lim]] w (CutPost w.heap.size w (cutF xs pos off lim anc)) := by
  have hi := idxF_bd xs anc
  rw [hn] at hi
  have Hn := Lib.hid hn
  have Hx := Lib.hid hx
  clear hx hn
  have n1 := nearF_bd pos
  have n2 := nearF_bd off
  have n3 := nearF_bd lim
  go_enter Try.func15, Try.ntmps15
  go_upto_if 16 with (first
    | (go_at_call 31; refine (rnear_any _ _ (by omega)).mono ?_; rintro e w' ⟨rfl, rfl⟩))
  go_cut [7] (fun s7 wx => ∃ F0 : Int, s7 = .int .i64 F0 ∧ F0 = (if nearF pos < 0 then n + nearF pos else nearF pos) ∧ wx = w.alloc (.cells #[.int .i64 pos, .string anc, .int .i64 off, .int .i64 lim] 24))
  case first =>
    go_wp2
    · have h2 : nearF pos < 0 := by assumption
      go_meet
      exact ⟨_, rfl, by rw [if_pos h2]; omega, rfl⟩
    · have h2 : 0 ≤ nearF pos := by assumption
      go_meet
      exact ⟨_, rfl, by rw [if_neg (by omega)], rfl⟩
  case rest =>
    obtain ⟨F0, rfl, hF0, rfl⟩ := hcut
    have b0 : -9007199254740991 ≤ F0 ∧ F0 ≤ 9007199254740991 := by
      rw [hF0]; split <;> omega
    have HF0 := Lib.hid hF0
    clear hF0
    go_upto_if 23 with fail
    go_cut [4, 5, 6, 7, 8, 9] (fun s4 s5 s6 s7 s8 s9 wx => ∃ F1 : Int, s7 = .int .i64 F1 ∧ -9907199254740991 ≤ F1 ∧ F1 ≤ 9907199254740991 ∧ cutF xs pos off lim anc = cutAt xs (if F1 < 0 then 0 else F1) lim ∧ Dr (w.alloc (.cells #[.int .i64 pos, .string anc, .int .i64 off, .int .i64 lim] 24)) wx)
    case first =>
      go_wp2
      · have hanc : (!anc.toList.isEmpty) = true := by assumption
        have Hanc := Lib.hid hanc
        go_loopw [8, 9] (fun t8 t9 wr => ∃ j : Int, -1 ≤ j ∧ j < n ∧ t9 = .int .i64 j ∧ t8 = .int .i64 (idxFrom xs anc (j + 1).toNat) ∧ Dr (w.alloc (.cells #[.int .i64 pos, .string anc, .int .i64 off, .int .i64 lim] 24)) wr)
          (fun _ t9 _ => (intOf t9 + 1).toNat)
        case atStart =>
          refine ⟨(n : Int) - 1, by omega, by omega, rfl, ?_, Dr.refl _⟩
          rw [idxFrom_end xs anc (by rw [Hn.out]; omega)]
        case round =>
          obtain ⟨j, hj1, hj2, rfl, rfl, ⟨q, rfl⟩⟩ := hrel
          have bj := idxFrom_bd xs anc (j + 1).toNat
          rw [Hn.out] at bj
          by_cases hge : 0 ≤ j
          · obtain ⟨k, rfl⟩ := Int.eq_ofNat_of_zero_le hge
            have lx : k < xs.length := by rw [Hn.out]; omega
            obtain ⟨b, o, rfl, hb, hc⟩ := Hx.out.at_ (by simp; omega)
            have h1 : (w.alloc (.cells #[.int .i64 pos, .string anc, .int .i64 off, .int .i64 lim] 24)).cell? ⟨b, o + k, none⟩ = some (.string xs[k]) := (World.cell?_alloc_lt w _ _ (by show b < _; omega)).trans (hc k (.string xs[k]) (by simp [lx]))
            clear hc
            have e1 : ((k : Int) + 1).toNat = k + 1 := by omega
            have Hk : Hid (xs[k] = anc → idxFrom xs anc k = (k : Int)) := Lib.hid (idxFrom_hit xs anc lx)
            have Hk' : Hid (xs[k] ≠ anc → idxFrom xs anc k = idxFrom xs anc (k + 1)) := Lib.hid (idxFrom_miss xs anc lx)
            rw [e1] at bj ⊢
            clear e1
            generalize idxFrom xs anc (k + 1) = t at *
            generalize xs[k] = x at *
            by_cases hxy : x = anc
            · have e1 := eqS hxy
              have He := Lib.hid hxy
              clear hxy
              go_wp2
              go_quiet (fail)
              go_wp2
              go_roundw
              case rel =>
                refine ⟨(k : Int) - 1, by omega, by omega, rfl, ?_, (by first | exact ⟨_, rfl⟩ | exact Dr.n ⟨_, rfl⟩ _)⟩
                rw [show ((k : Int) - 1 + 1).toNat = k from by omega, Hk.out He.out]
              case measure => simp [intOf]
            · have e1 := neS hxy
              have He := Lib.hid hxy
              clear hxy
              go_wp2
              go_quiet (fail)
              go_wp2
              go_roundw
              case rel =>
                refine ⟨(k : Int) - 1, by omega, by omega, rfl, ?_, (by first | exact ⟨_, rfl⟩ | exact Dr.n ⟨_, rfl⟩ _)⟩
                rw [show ((k : Int) - 1 + 1).toNat = k from by omega, Hk'.out He.out]
              case measure => simp [intOf]
          · have : j = -1 := by omega
            subst this
            have e1 : ((-1 : Int) + 1).toNat = 0 := rfl
            rw [e1, idxFrom_zero]
            go_wp2_with (first
              | (go_at_call 31; refine (rnear_any _ _ (by omega)).mono ?_; rintro e w' ⟨rfl, rfl⟩))
            · have h2 : idxF xs anc < 0 := by assumption
              go_ret3
              have h3 : cutF xs pos off lim anc = ([], 0, 220) := by
                unfold cutF
                rw [if_neg (by simpa using Hanc.out), if_pos h2]
              rw [h3]
              exact ⟨none, 0, rfl, World.ownsRow_nil _ _ _ _, ((Below.refl _ _).alloc (Nat.le_refl _) _).trans (Dr.below ⟨_, rfl⟩)⟩
            · have h2 : 0 ≤ idxF xs anc := by assumption
              go_meet
              have b1 := nearF_bd (nearF off + idxF xs anc)
              refine ⟨_, rfl, by omega, by omega, ?_, ⟨_, rfl⟩⟩
              unfold cutF
              rw [if_neg (by simpa using Hanc.out), if_neg (by omega)]
              congr 1
              unfold mxF mnF
              clear b1
              unfold nearF at *
              repeat' split
              all_goals omega
      · have hanc : (!anc.toList.isEmpty) = false := by assumption
        go_meet
        refine ⟨F0, rfl, by omega, by omega, ?_, Dr.refl _⟩
        unfold cutF
        rw [if_pos (by simpa using hanc), HF0.out]
        unfold mxF
        rw [Hn.out]
        congr 1
        repeat' split
        all_goals omega
    case rest =>
      obtain ⟨F1, rfl, c1, c2, hF1, ⟨q, rfl⟩⟩ := hcut
      have HF1 := Lib.hid hF1
      clear hF1
      go_upto_if 48 with fail
      go_cut [7] (fun s7 wx => ∃ F : Nat, s7 = .int .i64 F ∧ (F : Int) ≤ 9907199254740991 ∧ (F : Int) = (if F1 < 0 then 0 else F1) ∧ wx = (w.alloc (.cells #[.int .i64 pos, .string anc, .int .i64 off, .int .i64 lim] 24)).drewN q)
      case first =>
        go_wp2
        · have h2 : F1 < 0 := by assumption
          go_meet
          exact ⟨0, rfl, by omega, by rw [if_pos h2]; rfl, rfl⟩
        · have h2 : 0 ≤ F1 := by assumption
          go_meet
          exact ⟨F1.toNat, by rw [Int.toNat_of_nonneg h2], by omega, by rw [if_neg (by omega), Int.toNat_of_nonneg h2], rfl⟩
      case rest =>
        obtain ⟨F, rfl, d1, hF, rfl⟩ := hcut
        rw [← hF] at HF1
        clear hF
        obtain ⟨W, hW⟩ : ∃ W, W = (w.alloc (.cells #[.int .i64 pos, .string anc, .int .i64 off, .int .i64 lim] 24)).drewN q := ⟨_, rfl⟩
        have hlimc : W.cell? ⟨w.heap.size, 3, none⟩ = some (.int .i64 lim) := by rw [hW]; simp [World.cell?_alloc_new]
        have hold : ∀ p : Addr, p.block < w.heap.size → W.cell? p = w.cell? p := fun p hp => by rw [hW]; exact World.cell?_alloc_lt w _ p hp
        have hsz : W.heap.size = w.heap.size + 1 := by rw [hW]; simp
        have hbel : Below w.heap.size w W := by rw [hW]; exact ((Below.refl _ _).alloc (Nat.le_refl _) _).trans (Dr.below ⟨_, rfl⟩)
        rw [← hW]
        clear hW
        have Hlimc := Lib.hid hlimc
        have Hold := Lib.hid hold
        have Hsz := Lib.hid hsz
        have Hbel := Lib.hid hbel
        clear hlimc hold hsz hbel
        obtain ⟨L, hL⟩ : ∃ L, L = (if lim < 0 then xs.length else lim.toNat) := ⟨_, rfl⟩
        have HL := Lib.hid hL
        clear hL
        go_wp2
        go_loopw [10, 11] (fun v i wr => ∃ k m : Nat, k ≤ n ∧ i = .int .i64 k ∧ (outK xs F L k).length = m ∧ wr.ownsRow (w.heap.size + 1) 9 1 v m ((outK xs F L k).map Value.string) ∧ Below (w.heap.size + 1) W wr)
          (fun _ i _ => n - (intOf i).toNat)
        case atStart => exact ⟨0, 0, Nat.zero_le _, rfl, by simp [outK], by simpa [outK] using World.ownsRow_nil _ _ _ _, Below.refl _ _⟩
        case round =>
          obtain ⟨k, m, hk, rfl, hm, hown, hbw⟩ := hrel
          obtain ⟨A1, c1, rfl⟩ := own_form hown
          have Hm := Lib.hid hm
          clear hm
          by_cases hlt : k < n
          · have lx : k < xs.length := by rw [Hn.out]; exact hlt
            have hml := outK_len xs F L k (by omega)
            rw [Hm.out] at hml
            obtain ⟨b, o, rfl, hb, hc⟩ := Hx.out.at_ (by simp; omega)
            have h1 : wr.cell? ⟨b, o + k, none⟩ = some (.string xs[k]) := (hbw.cell (p := ⟨b, o + k, none⟩) (by show b < _; omega)).trans ((Hold.out ⟨b, o + k, none⟩ (by show b < _; omega)).trans (hc k (.string xs[k]) (by simp [lx])))
            have h2 : wr.cell? ⟨w.heap.size, 3, none⟩ = some (.int .i64 lim) := (hbw.cell (p := ⟨w.heap.size, 3, none⟩) (by show w.heap.size < _; omega)).trans Hlimc.out
            have hsz := hbw.size
            rw [Hsz.out] at hsz
            clear hc
            have Hin : Hid (F ≤ k → m < L → outK xs F L (k + 1) = outK xs F L k ++ [xs[k]]) := Lib.hid (fun a b => outK_in xs F L k lx a (by rw [Hm.out]; exact b))
            have Hout : Hid (k < F ∨ L ≤ m → outK xs F L (k + 1) = outK xs F L k) := Lib.hid (fun a => outK_out xs F L k lx (by rw [Hm.out]; exact a))
            have hLe : (lim < 0 → L = n) ∧ (0 ≤ lim → L = lim.toNat) := by
              have := HL.out
              constructor
              · intro h; rw [if_pos h] at this; rw [this, Hn.out]
              · intro h; rw [if_neg (by omega)] at this; exact this
            have HLe := Lib.hid hLe
            clear hLe
            have Hml := Lib.hid hml
            have hmn : m ≤ n := by omega
            clear hml
            have Hbw := Lib.hid hbw
            clear hbw
            generalize xs[k] = x at *
            by_cases hF : F ≤ k
            · by_cases hneg : lim < 0
              · have hin := Hin.out hF (by have := HLe.out.1 hneg; have := Hml.out; omega)
                have Hi := Lib.hid hin
                clear hin
                go_wp2_with (at_builtin; refine wpList_app _ rfl _ _ 22 9 rfl (w.heap.size + 1) _ 16 Try.underlying22 info9 rfl _ m _ rfl (hown.alloc _) (wr.heap.size + 1) _ 1 _ [.string x] rfl (rd_new1 _ _ _) rfl (one_s1 x) ?c3 ?c4 ?c5 ?_)
                case c3 => omega
                case c4 => first | omega | (simp only [maxLen]; omega)
                case c5 => first | omega | (simp; omega)
                intro v' w1 hown1 hgrow
                have hb1 := Below.own (Hbw.out.alloc hsz _) (hown.alloc _) hgrow (by simp; omega) (Nat.le_refl _)
                have hlen : (outK xs F L (k + 1)).length = m + 1 := by rw [Hi.out, List.length_append, Hm.out]; rfl
                have hown2 : w1.ownsRow (w.heap.size + 1) 9 1 v' (m + 1) ((outK xs F L (k + 1)).map Value.string) := by rw [Hi.out, List.map_append]; exact hown1
                have Hlen := Lib.hid hlen
                clear hlen hown1
                go_wp2
                go_roundw
                case rel => exact ⟨k + 1, m + 1, by omega, by go_num, Hlen.out, hown2, hb1⟩
                case measure => simp [intOf]; omega
              · by_cases hq : (m : Int) < lim
                · have hin := Hin.out hF (by have := HLe.out.2 (by omega); omega)
                  have Hi := Lib.hid hin
                  clear hin
                  go_wp2_with (at_builtin; refine wpList_app _ rfl _ _ 22 9 rfl (w.heap.size + 1) _ 16 Try.underlying22 info9 rfl _ m _ rfl (hown.alloc _) (wr.heap.size + 1) _ 1 _ [.string x] rfl (rd_new1 _ _ _) rfl (one_s1 x) ?c3 ?c4 ?c5 ?_)
                  case c3 => omega
                  case c4 => first | omega | (simp only [maxLen]; omega)
                  case c5 => first | omega | (simp; omega)
                  intro v' w1 hown1 hgrow
                  have hb1 := Below.own (Hbw.out.alloc hsz _) (hown.alloc _) hgrow (by simp; omega) (Nat.le_refl _)
                  have hlen : (outK xs F L (k + 1)).length = m + 1 := by rw [Hi.out, List.length_append, Hm.out]; rfl
                  have hown2 : w1.ownsRow (w.heap.size + 1) 9 1 v' (m + 1) ((outK xs F L (k + 1)).map Value.string) := by rw [Hi.out, List.map_append]; exact hown1
                  have Hlen := Lib.hid hlen
                  clear hlen hown1
                  go_wp2
                  go_roundw
                  case rel => exact ⟨k + 1, m + 1, by omega, by go_num, Hlen.out, hown2, hb1⟩
                  case measure => simp [intOf]; omega
                · have hout := Hout.out (.inr (by have := HLe.out.2 (by omega); omega))
                  have Hi := Lib.hid hout
                  clear hout
                  go_wp2
                  go_roundw
                  case rel => exact ⟨k + 1, m, by omega, by go_num, by rw [Hi.out]; exact Hm.out, by rw [Hi.out]; exact hown, Hbw.out⟩
                  case measure => simp [intOf]; omega
            · have hout := Hout.out (.inl (by omega))
              have Hi := Lib.hid hout
              clear hout
              go_wp2
              go_roundw
              case rel => exact ⟨k + 1, m, by omega, by go_num, by rw [Hi.out]; exact Hm.out, by rw [Hi.out]; exact hown, Hbw.out⟩
              case measure => simp [intOf]; omega
          · have hkn : k = n := by omega
            have Hkn := Lib.hid hkn
            clear hkn
            have hend : cutF xs pos off lim anc = (outK xs F L k, (F : Int), 0) := by
              have he := outK_end xs (F : Int) lim (by rw [Hn.out]; omega)
              rw [HF1.out, ← he, Int.toNat_natCast, ← HL.out, Hn.out, Hkn.out]
            have Hend := Lib.hid hend
            clear hend
            have Hbw := Lib.hid hbw
            clear hbw
            go_wp2
            go_ret3
            rw [Hend.out]
            refine ⟨A1, c1, ?_, ?_, ?_⟩
            · rw [Hm.out]; rfl
            · rw [Hm.out]; exact own_base hown (by omega)
            · exact Hbel.out.trans (Hbw.out.mono (by omega))
end Go.Proofs.Ytgijjmcjobjoeaa
