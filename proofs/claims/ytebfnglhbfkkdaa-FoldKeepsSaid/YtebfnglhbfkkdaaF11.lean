import Derived.Test.YtebfnglhbfkkdaaF9
import Derived.Deep.RegionWith
import Derived.Deep.DeepCutAuto
import Derived.Deep.CutBlock
namespace Go.Proofs.Ytebfnglhbfkkdaa
open Go.RowKit

def lowT (xs : List ByteArray) (k : Nat) : List Value := ((xs.take k).map foldS).map Value.string
theorem lowT_step (xs : List ByteArray) (k : Nat) (h : k < xs.length) : lowT xs (k + 1) = lowT xs k ++ [.string (foldS xs[k])] := by
  unfold lowT
  rw [take_succ_eq xs k h, List.map_append, List.map_append]; rfl
theorem lowT_at (xs : List ByteArray) (k j : Nat) (h : j < k) (hj : j < xs.length) : (lowT xs k)[j]? = some (.string (foldS xs[j])) := by
  unfold lowT
  rw [List.getElem?_map, List.getElem?_map, List.getElem?_take_of_lt h, List.getElem?_eq_getElem hj]; rfl

set_option maxRecDepth 100000
set_option maxHeartbeats 4000000 in
theorem rmatch_any (q : ByteArray) (A : Option Addr) (n c B : Nat) (xs : List ByteArray) (hq : q.size ≤ 1000000) (hxs : ∀ x ∈ xs, x.size ≤ 1000000) (w : World) (hx : Rd w B A (xs.map Value.string)) (hB : B ≤ w.heap.size) (hn : xs.length = n) (bn : n ≤ 1000000) :
    Calls Try.prog 20 #[.string q, .slice A n c] w fun e w' => e = .returned (.bool (matchF q xs)) ∧ Below w.heap.size w w' := by
  have Hx := Lib.hid (hx.mono hB)
  have HT := Lib.hid (rterms_any q hq w)
  have Hxs := Lib.hid hxs
  have Hn := Lib.hid hn
  have Hle := Lib.hid (fun t ht => Nat.le_trans (termsF_le q t ht) hq)
  have Hmf : Hid (matchF q xs = (termsF q).all (fun t => xs.any (fun x => hasF x t))) := Lib.hid rfl
  clear hx hxs hn
  go_enter Try.func20, Try.ntmps20
  go_wp2_with fail
  refine HT.out.mono ?_
  rintro e w1 ⟨A1, c1, rfl, hown, hb1⟩
  have Hrt := Lib.hid (Rd.of_own hown)
  have Hb1 := Lib.hid hb1
  have z1 := hb1.size
  have hlen := termsF_len q
  obtain ⟨ts, hts⟩ : ∃ ts, termsF q = ts := ⟨_, rfl⟩
  rw [hts] at Hrt Hmf Hle hlen ⊢
  obtain ⟨m, hmm⟩ : ∃ m, ts.length = m := ⟨_, rfl⟩
  have hml : m ≤ 1000000 := by omega
  rw [hmm]
  have Hmm := Lib.hid hmm
  clear hlen
  clear hown hb1 hmm HT hts
  go_wp2
  go_loopw [6, 7] (fun v i wr => ∃ k : Nat, k ≤ n ∧ i = .int .i64 k ∧ wr.ownsRow w1.heap.size 9 1 v k (lowT xs k) ∧ Hid (Below w1.heap.size w1 wr)) (fun _ i _ => n - (intOf i).toNat)
  case atStart => exact ⟨0, Nat.zero_le _, rfl, World.ownsRow_nil _ _ _ _, Lib.hid (Below.refl _ _)⟩
  case round =>
    obtain ⟨k, hk, rfl, hown, Hb⟩ := hrel
    obtain ⟨A2, c2, rfl⟩ := own_form hown
    have Hown := Lib.hid hown
    have zb := Hb.out.size
    clear hown
    by_cases hm0 : 0 < m
    · by_cases hlt : k < n
      · have lx : k < xs.length := by rw [Hn.out]; exact hlt
        have Hr := Lib.hid (Hx.out.below (Hb1.out.trans (Hb.out.mono z1)))
        obtain ⟨b1, off1, rfl, _, hcx⟩ := Hr.out.at_ (by simp; omega)
        have h1 := hcx k (.string xs[k]) (by simp [lx])
        clear hcx
        have Hst := Lib.hid (lowT_step xs k lx)
        have zx := Hxs.out xs[k] (List.getElem_mem lx)
        generalize xs[k] = x at *
        go_wp2_with fail
        refine (rfold_any x (by omega) _).mono ?_
        rintro e w2 ⟨rfl, hb2⟩
        have z2 := hb2.size
        have Hb2 := Lib.hid hb2
        have Hown2 := Lib.hid (own_below Hown.out hb2 (Nat.le_refl _))
        clear hb2
        go_wp2_with (at_builtin; refine wpList_app _ rfl _ _ 26 9 rfl w1.heap.size _ 16 Try.underlying26 info9 rfl _ k _ rfl (Hown2.out.alloc _) (w2.heap.size + 1) _ 1 _ [.string (foldS x)] rfl (rd_new1 _ _ _) rfl (one_s1 _) ?c3 ?c4 ?c5 ?_)
        case c3 => omega
        case c4 => first | omega | (simp only [maxLen]; omega)
        case c5 => first | omega | (simp; omega)
        intro v' w3 hown3 hgrow
        have hb3 : Below w1.heap.size w1 w3 := Below.own ((Hb.out.trans (Hb2.out.mono zb)).alloc (by omega) _) (Hown2.out.alloc _) hgrow (by simp; omega) (Nat.le_refl _)
        have hown4 : w3.ownsRow w1.heap.size 9 1 v' (k + 1) (lowT xs (k + 1)) := by rw [Hst.out]; exact hown3
        have Hown4 := Lib.hid hown4
        have Hb3 := Lib.hid hb3
        clear hown3 hgrow hown4 hb3
        go_wp2
        go_roundw
        case rel => exact ⟨k + 1, by omega, by go_num, Hown4.out, Hb3⟩
        case measure => simp [intOf]; omega
      · have hkn : k = n := by omega
        subst hkn
        have Hrow := Lib.hid (Rd.of_own Hown.out)
        clear Hown
        have z0 := Hb1.out.size
        revert Hb Hrow zb
        generalize wr = W2
        intro Hb zb Hrow
        go_wp2
        go_loopw [8] (fun i wy => ∃ a : Nat, a ≤ m ∧ i = .int .i64 a ∧ Hid ((ts.take a).all (fun t => xs.any (fun x => hasF x t)) = true) ∧ Hid (Below W2.heap.size W2 wy)) (fun i _ => m - (intOf i).toNat)
        case atStart => exact ⟨0, Nat.zero_le _, rfl, Lib.hid rfl, Lib.hid (Below.refl _ _)⟩
        case round =>
          obtain ⟨a, ha, rfl, Ha, Hy⟩ := hrel
          by_cases hlt : a < m
          · have lt : a < ts.length := by rw [Hmm.out]; exact hlt
            have Hst := Lib.hid (all_step ts (fun t => xs.any (fun x => hasF x t)) a lt)
            have Hmiss := Lib.hid (all_miss ts (fun t => xs.any (fun x => hasF x t)) a lt)
            have zt := Hle.out ts[a] (List.getElem_mem lt)
            have Hta : Hid (ts[a]? = some ts[a]) := Lib.hid (List.getElem?_eq_getElem lt)
            generalize ts[a] = t at *
            go_wp2
            go_loopw [9, 10] (fun s9 j wz => ∃ b : Nat, b ≤ k ∧ j = .int .i64 b ∧ s9 = .bool ((xs.take b).any (fun x => hasF x t)) ∧ Hid (Below W2.heap.size W2 wz)) (fun _ j _ => k - (intOf j).toNat)
            case atStart => exact ⟨0, Nat.zero_le _, rfl, rfl, Hy⟩
            case round =>
              obtain ⟨b, hb, rfl, rfl, Hz⟩ := hrel
              cases hs : (xs.take b).any (fun x => hasF x t) with
              | true =>
                have Ha2 : Hid ((ts.take (a + 1)).all (fun t => xs.any (fun x => hasF x t)) = true) := Lib.hid (by
                  rw [Hst.out, Ha.out]
                  obtain ⟨x, hx1, hx2⟩ := List.any_eq_true.1 hs
                  exact List.any_eq_true.2 ⟨x, List.mem_of_mem_take hx1, hx2⟩)
                by_cases hbk : b < k
                · go_wp2
                  go_roundw
                  case rel => exact ⟨a + 1, by omega, by go_num, Ha2, Hz⟩
                  case measure => simp [intOf]; omega
                · go_wp2
                  go_roundw
                  case rel => exact ⟨a + 1, by omega, by go_num, Ha2, Hz⟩
                  case measure => simp [intOf]; omega
              | false =>
                by_cases hbk : b < k
                · have lx : b < xs.length := by rw [Hn.out]; exact hbk
                  have Hr1 := Lib.hid (Hrow.out.below Hz.out)
                  have Hr2 := Lib.hid (Hrt.out.below (Hb.out.trans (Hz.out.mono zb)))
                  obtain ⟨b1, off1, rfl, hB1, hc1⟩ := Hr1.out.at_ (by simp [lowT]; omega)
                  obtain ⟨b2, off2, rfl, hB2, hc2⟩ := Hr2.out.at_ (by simp; omega)
                  have h1 := hc1 b _ (lowT_at xs k b hbk lx)
                  have h2 := hc2 a (.string t) (by simp [Hta.out])
                  clear hc1 hc2
                  have zx := Hxs.out xs[b] (List.getElem_mem lx)
                  have Hst3 : Hid ((xs.take (b + 1)).any (fun x => hasF x t) = hasF xs[b] t) := Lib.hid (by rw [any_step xs _ b lx, hs]; rfl)
                  generalize xs[b] = x at *
                  have Hha : Hid (Lib.contains (foldS x).data.toList (foldS t).data.toList = hasF x t) := Lib.hid rfl
                  have zz := Hz.out.size
                  have zf1 := foldS_size x
                  have zf2 := foldS_size t
                  go_upto_block 5 with (fail)
                  go_cut [9] (fun s9 wx => s9 = .bool (hasF x t) ∧ Below W2.heap.size W2 wx)
                  case first =>
                    go_wp2_with fail
                    go_region_with (first | (go_at_call 11; refine (rfold_any t (by omega) _).mono ?_; rintro e w' ⟨rfl, hbq⟩; have q1 := (hbq.cell (p := ⟨b1, off1 + b, none⟩) (by simp; omega)).trans h1; have q2 := (hbq.cell (p := ⟨b2, off2 + a, none⟩) (by simp; omega)).trans h2) | (go_at_call 23; refine (in_any _ _ (by omega) (by omega) _).mono ?_; rintro e w' ⟨rfl, rfl⟩))
                    all_goals
                      go_wp2_with fail
                      go_meet
                      exact ⟨by rw [Hha.out], Hz.out.drew.trans (hbq.mono (by simp; omega))⟩
                  case rest =>
                    obtain ⟨rfl, hbx⟩ := hcut
                    have Hbx := Lib.hid hbx
                    clear hbx
                    go_wp2
                    go_roundw
                    case rel => exact ⟨b + 1, by omega, by go_num, by rw [Hst3.out], Hbx⟩
                    case measure => simp [intOf]; omega
                · have Hres : Hid (matchF q xs = false) := Lib.hid (by
                    rw [Hmf.out]
                    refine Hmiss.out ?_
                    rwa [show b = xs.length by rw [Hn.out]; omega, List.take_length] at hs)
                  go_wp2
                  go_ret
                  exact ⟨ret_bool Hres.out.symm, (Hb1.out.trans (Hb.out.mono z1)).trans (Hz.out.mono (by omega))⟩
          · have Hres : Hid (matchF q xs = true) := Lib.hid (by
              have := Ha.out
              rw [Hmf.out]
              rwa [show a = ts.length by rw [Hmm.out]; omega, List.take_length] at this)
            go_wp2
            go_ret
            exact ⟨ret_bool Hres.out.symm, (Hb1.out.trans (Hb.out.mono z1)).trans (Hy.out.mono (by omega))⟩
    · have hm0' : m = 0 := by omega
      subst hm0'
      have Hres : Hid (matchF q xs = true) := Lib.hid (by
        have : ts = [] := List.eq_nil_of_length_eq_zero Hmm.out
        rw [Hmf.out, this]; rfl)
      have Hbw := Lib.hid (Hb1.out.trans (Hb.out.mono z1))
      by_cases hlt : k < n
      · go_wp2
        go_loopw [8] (fun i wr2 => i = .int .i64 0 ∧ wr = wr2) (fun i _ => 0)
        case atStart => exact ⟨rfl, rfl⟩
        case round =>
          obtain ⟨rfl, rfl⟩ := hrel
          go_wp2
          go_ret
          exact ⟨ret_bool Hres.out.symm, Hbw.out⟩
      · go_wp2
        go_loopw [8] (fun i wr2 => i = .int .i64 0 ∧ wr = wr2) (fun i _ => 0)
        case atStart => exact ⟨rfl, rfl⟩
        case round =>
          obtain ⟨rfl, rfl⟩ := hrel
          go_wp2
          go_ret
          exact ⟨ret_bool Hres.out.symm, Hbw.out⟩
end Go.Proofs.Ytebfnglhbfkkdaa
