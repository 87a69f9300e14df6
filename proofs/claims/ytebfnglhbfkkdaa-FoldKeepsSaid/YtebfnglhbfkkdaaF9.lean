import Derived.Test.YtebfnglhbfkkdaaF8
import Derived.Test.YtebfnglhbfkkdaaF7
namespace Go.Proofs.Ytebfnglhbfkkdaa
open Go.RowKit

def matchF (q : ByteArray) (xs : List ByteArray) : Bool := (termsF q).all (fun t => xs.any (fun x => hasF x t))
theorem all_step (ts : List ByteArray) (f : ByteArray → Bool) (k : Nat) (h : k < ts.length) : (ts.take (k + 1)).all f = ((ts.take k).all f && f ts[k]) := by
  rw [take_succ_eq ts k h, List.all_append]; simp
theorem all_miss (ts : List ByteArray) (f : ByteArray → Bool) (k : Nat) (h : k < ts.length) (hf : f ts[k] = false) : ts.all f = false := by
  cases hc : ts.all f with
  | false => rfl
  | true => rw [List.all_eq_true.1 hc _ (List.getElem_mem h)] at hf; cases hf
theorem extract_size_le (q : ByteArray) (a e : Nat) : (q.extract a e).size ≤ q.size := by
  rw [ByteArray.size_extract]; omega
theorem termsL_le : ∀ (f : Nat) (l : List UInt8), ∀ t ∈ termsL f l, t.length ≤ l.length
  | 0, l, t, h => by simp [termsL] at h
  | f + 1, [], t, h => by simp [termsL] at h
  | f + 1, c :: r, t, h => by
    have htw : ∀ (p : UInt8 → Bool) (l : List UInt8), (l.takeWhile p).length ≤ l.length := fun p l => (List.takeWhile_prefix p).length_le
    unfold termsL at h
    by_cases h1 : c = 32
    · rw [if_pos h1] at h
      have := termsL_le f r t h
      simp only [List.length_cons]; omega
    · rw [if_neg h1] at h
      by_cases h2 : c = 34
      · rw [if_pos h2, List.mem_append] at h
        rcases h with h | h
        · split at h
          · cases h
          · rw [List.mem_singleton.1 h]
            have := htw (fun x => x != 34) r
            simp only [List.length_cons]; omega
        · have h3 := termsL_le f _ t h
          have hd := dropW_le (fun x : UInt8 => x != 34) r
          rw [List.length_drop] at h3
          simp only [List.length_cons]; omega
      · rw [if_neg h2, List.mem_cons] at h
        rcases h with h | h
        · rw [h]; exact htw _ _
        · have h3 := termsL_le f _ t h
          have hd := dropW_le (fun x : UInt8 => x != 32 && x != 34) (c :: r)
          omega
theorem termsL_len : ∀ (f : Nat) (l : List UInt8), (termsL f l).length ≤ l.length
  | 0, l => by simp [termsL]
  | f + 1, [] => by simp [termsL]
  | f + 1, c :: r => by
    unfold termsL
    by_cases h1 : c = 32
    · rw [if_pos h1]
      have := termsL_len f r
      simp only [List.length_cons]; omega
    · rw [if_neg h1]
      by_cases h2 : c = 34
      · rw [if_pos h2]
        have h3 := termsL_len f ((r.dropWhile (fun x => x != 34)).drop 1)
        have hd := dropW_le (fun x : UInt8 => x != 34) r
        rw [List.length_drop] at h3
        rw [List.length_append, List.length_cons]
        split
        · simp only [List.length_nil]; omega
        · rename_i hne
          have hz : 0 < (r.takeWhile (fun x => x != 34)).length := List.length_pos_iff.2 hne
          have hsum : (r.takeWhile (fun x => x != 34)).length + (r.dropWhile (fun x => x != 34)).length = r.length := by
            rw [← List.length_append, List.takeWhile_append_dropWhile]
          simp only [List.length_singleton]; omega
      · rw [if_neg h2]
        have hp : (c != 32 && c != 34) = true := by simp [h1, h2]
        have h3 := termsL_len f ((c :: r).dropWhile (fun x => x != 32 && x != 34))
        rw [List.dropWhile_cons, if_pos hp] at h3 ⊢
        have hd := dropW_le (fun x : UInt8 => x != 32 && x != 34) r
        rw [List.length_cons, List.length_cons]; omega
theorem termsF_len (q : ByteArray) : (termsF q).length ≤ q.size := by
  unfold termsF termsT
  rw [List.length_map, List.drop_zero]
  have := termsL_len q.data.toList.length q.data.toList
  have e2 : q.data.toList.length = q.size := by simp
  omega
theorem termsF_le (q : ByteArray) : ∀ t ∈ termsF q, t.size ≤ q.size := by
  intro t ht
  unfold termsF termsT at ht
  obtain ⟨l, hl, rfl⟩ := List.mem_map.1 ht
  have := termsL_le _ _ _ hl
  rw [List.drop_zero] at this
  have e : (strOf l).size = l.length := by simp [strOf, ByteArray.size]
  have e2 : q.data.toList.length = q.size := by simp
  omega

set_option maxHeartbeats 1000000 in
theorem match_any (Hterms : ∀ (q : ByteArray) (w : World), q.size ≤ 1000000 → Calls Try.prog 17 #[.string q] w (TermsPost q w))
    (q : ByteArray) (A : Option Addr) (n c B : Nat) (xs : List ByteArray) (hq : q.size ≤ 1000000) (hxs : ∀ x ∈ xs, ∀ t ∈ termsF q, HasOk x t) (w : World) (hx : Rd w B A (xs.map Value.string)) (hB : B ≤ w.heap.size) (hn : xs.length = n) (bn : n ≤ 9223372036854775807)
    (hm : MaxAt w) (h0 : 0 < w.heap.size) :
    Calls Try.prog 19 #[.string q, .slice A n c] w fun e w' => e = .returned (.bool (matchF q xs)) ∧ Below w.heap.size w w' := by
  have Hx := Lib.hid (hx.mono hB)
  have Hm := Lib.hid hm
  have HT := Lib.hid (Hterms q w hq)
  have Hxs := Lib.hid hxs
  have Hn := Lib.hid hn
  have Hmf : Hid (matchF q xs = (termsF q).all (fun t => xs.any (fun x => hasF x t))) := Lib.hid rfl
  clear hx hm hxs Hterms hn
  go_enter Try.func19, Try.ntmps19
  go_wp2_with fail
  refine HT.out.mono ?_
  rintro e w1 ⟨A1, c1, rfl, hown, hb1⟩
  have Hrt := Lib.hid (Rd.of_own hown)
  have Hb1 := Lib.hid hb1
  have z1 := hb1.size
  have hlen := termsF_len q
  obtain ⟨ts, hts⟩ : ∃ ts, termsF q = ts := ⟨_, rfl⟩
  rw [hts] at Hrt Hmf Hxs hlen ⊢
  obtain ⟨m, hmm⟩ : ∃ m, ts.length = m := ⟨_, rfl⟩
  have hml : m ≤ 1000000 := by omega
  rw [hmm]
  have Hmm := Lib.hid hmm
  clear hlen
  clear hown hb1 hmm HT hts
  go_wp2
  go_loopw [10] (fun i wr => ∃ k : Nat, k ≤ m ∧ i = .int .i64 k ∧ Hid ((ts.take k).all (fun t => xs.any (fun x => hasF x t)) = true) ∧ Hid (Below w1.heap.size w1 wr)) (fun i _ => m - (intOf i).toNat)
  case atStart => exact ⟨0, Nat.zero_le _, rfl, Lib.hid rfl, Lib.hid (Below.refl _ _)⟩
  case round =>
    obtain ⟨k, hk, rfl, Ha, Hb⟩ := hrel
    by_cases hlt : k < m
    · have lt : k < ts.length := by rw [Hmm.out]; exact hlt
      have Hr := Lib.hid (Hrt.out.below Hb.out)
      obtain ⟨b1, off1, rfl, _, hcx⟩ := Hr.out.at_ (by simp; omega)
      have h1 := hcx k (.string ts[k]) (by simp [lt])
      clear hcx
      have Hst := Lib.hid (all_step ts (fun t => xs.any (fun x => hasF x t)) k lt)
      have Hmiss := Lib.hid (all_miss ts (fun t => xs.any (fun x => hasF x t)) k lt)
      have zt : Hid (∀ x ∈ xs, HasOk x ts[k]) := Lib.hid (fun x hx => Hxs.out x hx _ (List.getElem_mem lt))
      have zb := Hb.out.size
      have Hbb := Lib.hid (Hb1.out.trans (Hb.out.mono z1))
      generalize ts[k] = t at *
      have Hba := Lib.hid (Hbb.out.alloc (by omega) (.cells #[.string t] 9))
      have hcell : (wr.alloc (.cells #[.string t] 9)).cell? ⟨wr.heap.size, 0, none⟩ = some (.string t) := by simp [World.cell?_alloc_new]
      have HC := Lib.hid (contF_any A n c w.heap.size wr.heap.size xs t zt.out (wr.alloc (.cells #[.string t] 9)) (Hx.out.below Hba.out) (by simp; omega) Hn.out bn (by simp) hcell (Hm.out.below Hba.out h0) (by simp))
      clear hcell
      go_wp2_with fail
      refine HC.out.mono ?_
      rintro e w2 ⟨rfl, hb2⟩
      have hb3 : Below w1.heap.size w1 w2 := (Hb.out.alloc (by omega) _).trans (hb2.mono (by simp; omega))
      have Hb3 := Lib.hid hb3
      clear hb2 hb3
      cases hh : xs.any (fun x => hasF x t) with
      | true =>
        have Ha2 : Hid ((ts.take (k + 1)).all (fun t => xs.any (fun x => hasF x t)) = true) := Lib.hid (by rw [Hst.out, Ha.out, hh]; rfl)
        go_wp2
        go_roundw
        case rel => exact ⟨k + 1, by omega, by go_num, Ha2, Hb3⟩
        case measure => simp [intOf]; omega
      | false =>
        have Hres : Hid (matchF q xs = false) := Lib.hid (by rw [Hmf.out]; exact Hmiss.out hh)
        go_wp2
        go_ret
        exact ⟨ret_bool Hres.out.symm, Hb1.out.trans (Hb3.out.mono z1)⟩
    · have Hres : Hid (matchF q xs = true) := Lib.hid (by
        have := Ha.out
        rw [Hmf.out]
        rwa [show k = ts.length by rw [Hmm.out]; omega, List.take_length] at this)
      go_wp2
      go_ret
      exact ⟨ret_bool Hres.out.symm, Hb1.out.trans (Hb.out.mono z1)⟩
end Go.Proofs.Ytebfnglhbfkkdaa
