import Derived.Test.YtijpbfafkdpolaaQ9
import Derived.RegionTactic
import Derived.Outline
namespace Go.Proofs.Ytijpbfafkdpolaa
open Go.RowKit Go.Shelf

/-! ### a member out of its piece of a line -/
def restP : List ByteArray → Prp → Prp
  | [], x => x
  | u :: r, x =>
    if u = ⟨#[33]⟩ then restP r (x.1, x.2.1, x.2.2.1, true, x.2.2.2.2)
    else if u = ⟨#[61]⟩ then (x.1, x.2.1, x.2.2.1, x.2.2.2.1, r.headD ⟨#[]⟩)
    else if x.2.2.1 = ⟨#[]⟩ then restP r (x.1, x.2.1, u, x.2.2.2.1, x.2.2.2.2)
    else restP r (x.1, x.2.1, x.2.2.1 ++ ⟨#[32]⟩ ++ u, x.2.2.2.1, x.2.2.2.2)
def numB (s : ByteArray) : List Int := s.data.toList.map fun b => (b.toNat : Int)
def formF (l : List Int) : Int := l.foldl (fun x b => x * 10 + b - 48) 0
def propF (s : ByteArray) : Prp := restP ((splitF s 32).drop 2) ((splitF s 32).getD 0 ⟨#[]⟩, formF (numB ((splitF s 32).getD 1 ⟨#[]⟩)), ⟨#[]⟩, false, ⟨#[]⟩)
/-- what a piece must be for the reference to read it: two words at least, a number of two digits at most, nothing too long, an '=' with a word behind it -/
def fineP (s : ByteArray) : Bool := decide (s.size ≤ 3000) && (decide (2 ≤ (splitF s 32).length) && (decide ((splitF s 32).length ≤ 200) && (decide (((splitF s 32).getD 1 ⟨#[]⟩).size ≤ 2) && (((splitF s 32).all fun u => decide (u.size ≤ 2000)) && ((List.range (splitF s 32).length).all fun i => decide ((splitF s 32).getD i ⟨#[]⟩ = ⟨#[61]⟩ → i + 1 < (splitF s 32).length))))))
theorem formF_app (l : List Int) (b : Int) : formF (l ++ [b]) = formF l * 10 + b - 48 := by unfold formF; rw [List.foldl_append]; rfl
theorem numB_sz (s : ByteArray) : (numB s).length = s.size := by simp [numB]
theorem numB_at (s : ByteArray) (k : Nat) (h : k < s.size) : (numB s)[k]'(by rw [numB_sz]; exact h) = ((s[k]'h).toNat : Int) := by
  unfold numB
  rw [List.getElem_map]
  rfl
theorem numB_take (s : ByteArray) (i : Nat) (h : i < s.size) : (numB s).take (i + 1) = (numB s).take i ++ [((s[i]'h).toNat : Int)] := by
  have hl : i < (numB s).length := by rw [numB_sz]; exact h
  rw [List.take_succ_eq_append_getElem hl, numB_at s i h]
theorem numB_len (s : ByteArray) : (numB s).length = s.size := by simp [numB]

theorem put_cell1 (w : World) (c : Array Value) (t : TypeId) (n i : Nat) (v : Value) : ((w.alloc (.cells c t)).drewN n).setCell ⟨w.heap.size, i, none⟩ v = (w.alloc (.cells (c.setIfInBounds i v) t)).drewN n := by
  show ((w.alloc (.cells c t)).setCell ⟨w.heap.size, i, none⟩ v).drewN n = _
  rw [World.setCell_alloc_at c t _ i v rfl]
theorem below_drewN {B : Nat} {a w : World} (h : Below B a w) (n : Nat) : Below B a (w.drewN n) := ⟨h.os, h.tape, h.output, h.size, h.block⟩
theorem rest_bang (r : List ByteArray) (a c d : ByteArray) (b : Int) (q : Bool) : restP (⟨#[33]⟩ :: r) (a, b, c, q, d) = restP r (a, b, c, true, d) := by simp [restP]
theorem rest_eq (r : List ByteArray) (a c d : ByteArray) (b : Int) (q : Bool) : restP (⟨#[61]⟩ :: r) (a, b, c, q, d) = (a, b, c, q, r.headD ⟨#[]⟩) := by
  rw [restP, if_neg (by decide), if_pos rfl]
theorem rest_first (u : ByteArray) (r : List ByteArray) (a d : ByteArray) (b : Int) (q : Bool) (h1 : u ≠ ⟨#[33]⟩) (h2 : u ≠ ⟨#[61]⟩) : restP (u :: r) (a, b, ⟨#[]⟩, q, d) = restP r (a, b, u, q, d) := by
  rw [restP, if_neg h1, if_neg h2, if_pos rfl]
theorem rest_more (u : ByteArray) (r : List ByteArray) (a c d : ByteArray) (b : Int) (q : Bool) (h1 : u ≠ ⟨#[33]⟩) (h2 : u ≠ ⟨#[61]⟩) (h3 : c ≠ ⟨#[]⟩) : restP (u :: r) (a, b, c, q, d) = restP r (a, b, c ++ ⟨#[32]⟩ ++ u, q, d) := by
  rw [restP, if_neg h1, if_neg h2, if_neg h3]
theorem drop_at (L : List ByteArray) (i : Nat) (h : i < L.length) : L.drop i = L.getD i ⟨#[]⟩ :: L.drop (i + 1) := by
  rw [List.drop_eq_getElem_cons h]
  congr 1
  simp [List.getD, List.getElem?_eq_getElem h]
theorem txt_eq {x : ByteArray} {l : List UInt8} (h : x = ⟨l.toArray⟩) : (x.toList == l) = true := by rw [h, ByteArray.toList_eq]; simp
theorem txt_ne {x : ByteArray} {l : List UInt8} (h : ¬ x = ⟨l.toArray⟩) : (x.toList == l) = false := by
  rw [beq_eq_false_iff_ne, ByteArray.toList_eq]
  intro e
  exact h (by rw [← e])
theorem txt_none {x : ByteArray} (h : x = ⟨#[]⟩) : x.toList.isEmpty = true := by rw [h, ByteArray.toList_eq]; rfl
theorem txt_some {x : ByteArray} (h : ¬ x = ⟨#[]⟩) : x.toList.isEmpty = false := by
  rw [ByteArray.toList_eq]
  cases hc : x.data.toList with
  | nil => exact absurd (bytes_ext (by rw [hc])) h
  | cons y l => rfl
/-- what the walk hands back, whatever the fields -/
def PropEnd (W : World) (x : Prp) (e : Ending) (w' : World) : Prop := e = .returned (.agg (encP x).toArray) ∧ Below W.heap.size W w'

set_option maxRecDepth 100000 in
set_option maxHeartbeats 8000000 in
theorem prop_any (s : ByteArray) (hf : fineP s = true) (W : World) : Calls Try.prog 24 #[.string s] W (PropEnd W (propF s)) := by
  obtain ⟨L, hL⟩ : ∃ L, splitF s 32 = L := ⟨_, rfl⟩
  unfold fineP at hf
  rw [hL] at hf
  simp only [Bool.and_eq_true, decide_eq_true_eq, List.all_eq_true, List.mem_range] at hf
  obtain ⟨h0, h1, h2, h3, h4, h5⟩ := hf
  obtain ⟨N, hN⟩ : ∃ N, L.length = N := ⟨_, rfl⟩
  have HS := Lib.hid (rsplit_at s 32 32 rfl (by omega) L N hL hN)
  have HP : Hid (propF s = restP (L.drop 2) (L.getD 0 ⟨#[]⟩, formF (numB (L.getD 1 ⟨#[]⟩)), ⟨#[]⟩, false, ⟨#[]⟩)) := Lib.hid (by unfold propF; rw [hL])
  rw [hN] at h1 h2 h5
  have H4 := Lib.hid h4
  have H5 := Lib.hid h5
  have HN := Lib.hid hN
  clear hL hN h4 h5
  go_enter Try.func24, Try.ntmps24
  go_wp2_with fail
  refine (HS.out _).mono ?_
  rintro e w1 ⟨A1, c1, rfl, ho, hb⟩
  obtain ⟨g, rfl, hg⟩ : ∃ g, A1 = some ⟨g, 0, none⟩ ∧ (W.alloc (.cells #[.string ⟨#[]⟩, .int .i64 0, .string ⟨#[]⟩, .bool false, .string ⟨#[]⟩] 32)).heap.size ≤ g := by
    rcases ho.2 with ⟨_, h⟩ | ⟨g, cap, cur, hv, hb, _⟩
    · omega
    · exact ⟨g, (Value.slice.inj hv).1, hb⟩
  have hlt : g < w1.heap.size := by
    rcases ho.2 with ⟨_, h⟩ | ⟨g', cap, cur, hv, _, hh, _⟩
    · omega
    · have e1 := (Value.slice.inj hv).1
      have e2 : g = g' := by simpa using e1
      subst e2
      exact (Array.getElem?_eq_some_iff.1 hh).1
  have Hcell : Hid (∀ i u, L[i]? = some u → w1.cell? ⟨g, i, none⟩ = some (.string u)) := Lib.hid fun i u hu => by
    have hi : i < L.length := (List.getElem?_eq_some_iff.1 hu).1
    rw [ho.cellAt i (by rw [← HN.out]; omega), List.getElem?_map, hu]
    rfl
  have hz : W.heap.size < (W.alloc (.cells #[.string ⟨#[]⟩, .int .i64 0, .string ⟨#[]⟩, .bool false, .string ⟨#[]⟩] 32)).heap.size := by simp
  have hgW : W.heap.size < g := by omega
  have hw1 : W.heap.size < w1.heap.size := by omega
  have B1 := Lib.hid (((Below.refl W.heap.size W).alloc (Nat.le_refl _) (.cells #[.string ⟨#[]⟩, .int .i64 0, .string ⟨#[]⟩, .bool false, .string ⟨#[]⟩] 32)).trans (hb.mono (Nat.le_of_lt hz)))
  have c0 : w1.cell? ⟨W.heap.size, 0, none⟩ = some (.string ⟨#[]⟩) := (hb.cell (p := ⟨W.heap.size, 0, none⟩) hz).trans (by simp [World.cell?_alloc_new])
  have c1' : w1.cell? ⟨W.heap.size, 1, none⟩ = some (.int .i64 0) := (hb.cell (p := ⟨W.heap.size, 1, none⟩) hz).trans (by simp [World.cell?_alloc_new])
  have c2 : w1.cell? ⟨W.heap.size, 2, none⟩ = some (.string ⟨#[]⟩) := (hb.cell (p := ⟨W.heap.size, 2, none⟩) hz).trans (by simp [World.cell?_alloc_new])
  have c3 : w1.cell? ⟨W.heap.size, 3, none⟩ = some (.bool false) := (hb.cell (p := ⟨W.heap.size, 3, none⟩) hz).trans (by simp [World.cell?_alloc_new])
  have c4 : w1.cell? ⟨W.heap.size, 4, none⟩ = some (.string ⟨#[]⟩) := (hb.cell (p := ⟨W.heap.size, 4, none⟩) hz).trans (by simp [World.cell?_alloc_new])
  have f0 : w1.frozen? ⟨W.heap.size, 0, none⟩ = false := (hb.frozen (p := ⟨W.heap.size, 0, none⟩) hz).trans (by simp [go_sem])
  have f1 : w1.frozen? ⟨W.heap.size, 1, none⟩ = false := (hb.frozen (p := ⟨W.heap.size, 1, none⟩) hz).trans (by simp [go_sem])
  have f2 : w1.frozen? ⟨W.heap.size, 2, none⟩ = false := (hb.frozen (p := ⟨W.heap.size, 2, none⟩) hz).trans (by simp [go_sem])
  have f3 : w1.frozen? ⟨W.heap.size, 3, none⟩ = false := (hb.frozen (p := ⟨W.heap.size, 3, none⟩) hz).trans (by simp [go_sem])
  have f4 : w1.frozen? ⟨W.heap.size, 4, none⟩ = false := (hb.frozen (p := ⟨W.heap.size, 4, none⟩) hz).trans (by simp [go_sem])
  clear ho hb hg hz
  have at_ : Hid (∀ i, i < N → L[i]? = some (L.getD i ⟨#[]⟩)) := Lib.hid fun i hi => by
    rw [List.getD, List.getElem?_eq_getElem (by rw [HN.out]; exact hi)]
    rfl
  obtain ⟨nm, hnm⟩ : ∃ x, L.getD 0 ⟨#[]⟩ = x := ⟨_, rfl⟩
  obtain ⟨dg, hdg⟩ : ∃ x, L.getD 1 ⟨#[]⟩ = x := ⟨_, rfl⟩
  have l0 : w1.cell? ⟨g, 0, none⟩ = some (.string nm) := by rw [← hnm]; exact Hcell.out 0 _ (at_.out 0 (by omega))
  have l1 : w1.cell? ⟨g, 1, none⟩ = some (.string dg) := by rw [← hdg]; exact Hcell.out 1 _ (at_.out 1 (by omega))
  rw [hnm, hdg] at HP
  rw [hdg] at h3
  clear hnm hdg
  go_wp2_with fail
  go_loopw [5] (fun t5 wr => ∃ (i n : Nat) (f : Int), i ≤ dg.size ∧ t5 = .int .i64 i ∧ Hid (f = formF ((numB dg).take i)) ∧ -600 ≤ f ∧ f ≤ 3000 ∧ (i ≤ 1 → -48 ≤ f ∧ f ≤ 207) ∧ (i = 0 → f = 0) ∧ wr = (w1.alloc (.cells #[.string nm, .int .i64 f, .string ⟨#[]⟩, .bool false, .string ⟨#[]⟩] 32)).drewN n) (fun t5 _ => dg.size - (intOf t5).toNat)
  case atStart => exact ⟨0, 0, 0, by omega, rfl, Lib.hid rfl, by omega, by omega, fun _ => by omega, fun _ => rfl, rfl⟩
  case round =>
    obtain ⟨i, n, f, hi, rfl, Hf, b0, b1, b2, b3, rfl⟩ := hrel
    by_cases hlt2 : i < dg.size
    · obtain ⟨c, hc⟩ : ∃ c : Int, ((dg[i]'hlt2).toNat : Int) = c := ⟨_, rfl⟩
      have hcb : 0 ≤ c ∧ c ≤ 255 := by have := (dg[i]'hlt2).toNat_lt; omega
      obtain ⟨k0, k1⟩ := hcb
      have Hf2 : Hid (f * 10 + c - 48 = formF ((numB dg).take (i + 1))) := Lib.hid (by rw [numB_take dg i hlt2, formF_app, ← Hf.out, hc])
      have hfb : -48 ≤ f ∧ f ≤ 207 := b2 (by omega)
      obtain ⟨m0, m1⟩ := hfb
      have hnew : -600 ≤ f * 10 + c - 48 ∧ f * 10 + c - 48 ≤ 3000 ∧ (i + 1 ≤ 1 → -48 ≤ f * 10 + c - 48 ∧ f * 10 + c - 48 ≤ 207) := by
        refine ⟨by omega, by omega, fun h => ?_⟩
        have := b3 (by omega)
        omega
      have Hnew := Lib.hid hnew
      clear hnew b2 b3
      go_wp2_with fail
      have r1 : IntKind.i64.wrap (f * 10) = f * 10 := by simp only [IntKind.wrap_i64]; omega
      have r2 : IntKind.i64.wrap (f * 10 + c) = f * 10 + c := by simp only [IntKind.wrap_i64]; omega
      have r3 : IntKind.i64.wrap (f * 10 + c - 48) = f * 10 + c - 48 := by simp only [IntKind.wrap_i64]; omega
      have r4 : IntKind.i64.wrap c = c := by simp only [IntKind.wrap_i64]; omega
      go_region
      clear r1 r2 r3 r4
      go_wp2_with fail
      go_roundw
      case rel => exact ⟨i + 1, _, f * 10 + c - 48, by omega, by go_num, Hf2, Hnew.out.1, Hnew.out.2.1, Hnew.out.2.2, (fun h => by omega), put_cell1 _ _ _ _ _ _⟩
      case measure => simp [intOf]; omega
    · have HF : Hid (f = formF (numB dg)) := Lib.hid (by rw [Hf.out, List.take_of_length_le (by rw [numB_sz]; omega)])
      rw [← HF.out] at HP
      clear b0 b1 b2 b3 Hf HF l0
      have HP0 : Hid (propF s = restP (L.drop 2) (nm, f, ⟨#[]⟩, false, ⟨#[]⟩)) := Lib.hid HP.out
      clear HP
      go_wp2_with fail
      go_loopw [6] (fun t6 wr => ∃ (i n : Nat) (arg d : ByteArray) (q : Bool), 2 ≤ i ∧ i ≤ N ∧ t6 = .int .i64 i ∧ Hid (propF s = restP (L.drop i) (nm, f, arg, q, d)) ∧ arg.size ≤ 3000 * i ∧ wr = (w1.alloc (.cells #[.string nm, .int .i64 f, .string arg, .bool q, .string d] 32)).drewN n) (fun t6 _ => N - (intOf t6).toNat)
      case atStart => exact ⟨2, n, ⟨#[]⟩, ⟨#[]⟩, false, by omega, by omega, rfl, HP0, Nat.zero_le _, rfl⟩
      case round =>
        clear HP0 hlt2 hi l1
        obtain ⟨i, n2, arg, d, q, hi2, hiN, rfl, Hp, ha, rfl⟩ := hrel
        by_cases hlt3 : i < N
        · obtain ⟨u, hu⟩ : ∃ u, L.getD i ⟨#[]⟩ = u := ⟨_, rfl⟩
          have lu : w1.cell? ⟨g, i, none⟩ = some (.string u) := by rw [← hu]; exact Hcell.out i _ (at_.out i hlt3)
          have husz : u.size ≤ 2000 := H4.out u (by
            have := at_.out i hlt3
            rw [hu] at this
            exact List.mem_of_getElem? this)
          have Hdr := Lib.hid (drop_at L i (by rw [HN.out]; exact hlt3))
          rw [hu] at Hdr
          have Hu := Lib.hid hu
          clear hu
          rw [Hdr.out] at Hp
          by_cases hb33 : u = ⟨#[33]⟩
          · subst hb33
            rw [rest_bang] at Hp
            have e1 := txt_eq (x := ⟨#[33]⟩) (l := [33]) rfl
            go_wp2_with fail
            go_roundw
            case rel => exact ⟨i + 1, _, arg, d, true, by omega, by omega, by go_num, Hp, by omega, by first | rfl | exact put_cell1 _ _ _ _ _ _⟩
            case measure => simp [intOf]; omega
          · have e1 := txt_ne (x := u) (l := [33]) hb33
            by_cases hb61 : u = ⟨#[61]⟩
            · subst hb61
              have hlast : i + 1 < N := H5.out i hlt3 Hu.out
              obtain ⟨v, hv⟩ : ∃ v, L.getD (i + 1) ⟨#[]⟩ = v := ⟨_, rfl⟩
              have lv : w1.cell? ⟨g, i + 1, none⟩ = some (.string v) := by rw [← hv]; exact Hcell.out (i + 1) _ (at_.out (i + 1) hlast)
              have Hp2 : Hid (propF s = (nm, f, arg, q, v)) := Lib.hid (by
                rw [Hp.out, rest_eq, drop_at L (i + 1) (by rw [HN.out]; exact hlast), List.headD_cons, hv])
              have e2 := txt_eq (x := ⟨#[61]⟩) (l := [61]) rfl
              clear hv Hp Hdr Hu
              have BW : Hid (Below W.heap.size W ((w1.alloc (.cells #[.string nm, .int .i64 f, .string arg, .bool q, .string d] 32)).drewN n2)) := Lib.hid (below_drewN (B1.out.alloc (Nat.le_of_lt hw1) _) n2)
              have x0 : ((w1.alloc (.cells #[.string nm, .int .i64 f, .string arg, .bool q, .string d] 32)).drewN n2).cell? ⟨w1.heap.size, 0, none⟩ = some (.string nm) := by simp [go_sem]
              have y0 : ((w1.alloc (.cells #[.string nm, .int .i64 f, .string arg, .bool q, .string d] 32)).drewN n2).cell? ⟨W.heap.size, 0, none⟩ = some (.string ⟨#[]⟩) := by simp [go_sem, hw1, c0]
              have z0 : ((w1.alloc (.cells #[.string nm, .int .i64 f, .string arg, .bool q, .string d] 32)).drewN n2).frozen? ⟨W.heap.size, 0, none⟩ = false := by simp [go_sem, hw1, f0]
              have x1 : ((w1.alloc (.cells #[.string nm, .int .i64 f, .string arg, .bool q, .string d] 32)).drewN n2).cell? ⟨w1.heap.size, 1, none⟩ = some (.int .i64 f) := by simp [go_sem]
              have y1 : ((w1.alloc (.cells #[.string nm, .int .i64 f, .string arg, .bool q, .string d] 32)).drewN n2).cell? ⟨W.heap.size, 1, none⟩ = some (.int .i64 0) := by simp [go_sem, hw1, c1']
              have z1 : ((w1.alloc (.cells #[.string nm, .int .i64 f, .string arg, .bool q, .string d] 32)).drewN n2).frozen? ⟨W.heap.size, 1, none⟩ = false := by simp [go_sem, hw1, f1]
              have x2 : ((w1.alloc (.cells #[.string nm, .int .i64 f, .string arg, .bool q, .string d] 32)).drewN n2).cell? ⟨w1.heap.size, 2, none⟩ = some (.string arg) := by simp [go_sem]
              have y2 : ((w1.alloc (.cells #[.string nm, .int .i64 f, .string arg, .bool q, .string d] 32)).drewN n2).cell? ⟨W.heap.size, 2, none⟩ = some (.string ⟨#[]⟩) := by simp [go_sem, hw1, c2]
              have z2 : ((w1.alloc (.cells #[.string nm, .int .i64 f, .string arg, .bool q, .string d] 32)).drewN n2).frozen? ⟨W.heap.size, 2, none⟩ = false := by simp [go_sem, hw1, f2]
              have x3 : ((w1.alloc (.cells #[.string nm, .int .i64 f, .string arg, .bool q, .string d] 32)).drewN n2).cell? ⟨w1.heap.size, 3, none⟩ = some (.bool q) := by simp [go_sem]
              have y3 : ((w1.alloc (.cells #[.string nm, .int .i64 f, .string arg, .bool q, .string d] 32)).drewN n2).cell? ⟨W.heap.size, 3, none⟩ = some (.bool false) := by simp [go_sem, hw1, c3]
              have z3 : ((w1.alloc (.cells #[.string nm, .int .i64 f, .string arg, .bool q, .string d] 32)).drewN n2).frozen? ⟨W.heap.size, 3, none⟩ = false := by simp [go_sem, hw1, f3]
              have x4 : ((w1.alloc (.cells #[.string nm, .int .i64 f, .string arg, .bool q, .string d] 32)).drewN n2).cell? ⟨w1.heap.size, 4, none⟩ = some (.string d) := by simp [go_sem]
              have y4 : ((w1.alloc (.cells #[.string nm, .int .i64 f, .string arg, .bool q, .string d] 32)).drewN n2).cell? ⟨W.heap.size, 4, none⟩ = some (.string ⟨#[]⟩) := by simp [go_sem, hw1, c4]
              have z4 : ((w1.alloc (.cells #[.string nm, .int .i64 f, .string arg, .bool q, .string d] 32)).drewN n2).frozen? ⟨W.heap.size, 4, none⟩ = false := by simp [go_sem, hw1, f4]
              have t4 : ((w1.alloc (.cells #[.string nm, .int .i64 f, .string arg, .bool q, .string d] 32)).drewN n2).frozen? ⟨w1.heap.size, 4, none⟩ = false := by simp [go_sem]
              have lW : ((w1.alloc (.cells #[.string nm, .int .i64 f, .string arg, .bool q, .string d] 32)).drewN n2).cell? ⟨g, i, none⟩ = some (.string ⟨#[61]⟩) := by simp [go_sem, hlt, lu]
              have lV : ((w1.alloc (.cells #[.string nm, .int .i64 f, .string arg, .bool q, .string d] 32)).drewN n2).cell? ⟨g, i + 1, none⟩ = some (.string v) := by simp [go_sem, hlt, lv]
              generalize (w1.alloc (.cells #[.string nm, .int .i64 f, .string arg, .bool q, .string d] 32)).drewN n2 = W2 at *
              have hne : W.heap.size ≠ w1.heap.size := by omega
              have hne2 : w1.heap.size ≠ W.heap.size := by omega
              clear c0 c1' c2 c3 c4 f0 f1 f2 f3 f4 hgW lu lv
              go_wp2_with fail
              refine bodyPost_ret (v := .agg #[.string nm, .int .i64 f, .string arg, .bool q, .string v]) (by simp [results, Try.results24, go_sem, y0, y1, y2, y3, y4, z0, z1, z2, z3, z4, hne, hne2]) rfl ?_
              unfold PropEnd
              rw [Hp2.out]
              refine ⟨rfl, (((((BW.out.setCell (p := ⟨w1.heap.size, 4, none⟩) (Nat.le_of_lt hw1) _).setCell (p := ⟨W.heap.size, 0, none⟩) (Nat.le_refl _) _).setCell (p := ⟨W.heap.size, 1, none⟩) (Nat.le_refl _) _).setCell (p := ⟨W.heap.size, 2, none⟩) (Nat.le_refl _) _).setCell (p := ⟨W.heap.size, 3, none⟩) (Nat.le_refl _) _).setCell (p := ⟨W.heap.size, 4, none⟩) (Nat.le_refl _) _⟩
            · have e2 := txt_ne (x := u) (l := [61]) hb61
              by_cases hbe : arg = ⟨#[]⟩
              · subst hbe
                rw [rest_first u _ _ _ _ _ hb33 hb61] at Hp
                have e3 := txt_none (x := ⟨#[]⟩) rfl
                clear hb33 hb61
                go_wp2_with fail
                go_roundw
                case rel => exact ⟨i + 1, _, u, d, q, by omega, by omega, by go_num, Hp, by omega, by first | rfl | exact put_cell1 _ _ _ _ _ _⟩
                case measure => simp [intOf]; omega
              · rw [rest_more u _ _ _ _ _ _ hb33 hb61 hbe] at Hp
                have e3 := txt_some hbe
                have hsz : (arg ++ ⟨#[32]⟩ ++ u).size ≤ 3000 * (i + 1) := by
                  rw [ByteArray.size_append, ByteArray.size_append]
                  show arg.size + 1 + u.size ≤ _
                  omega
                have Hsz := Lib.hid hsz
                clear hb33 hb61 hbe hsz
                go_wp2_with fail
                go_region
                go_wp2_with fail
                go_roundw
                case rel => exact ⟨i + 1, _, arg ++ ⟨#[32]⟩ ++ u, d, q, by omega, by omega, by go_num, Hp, Hsz.out, by first | rfl | exact put_cell1 _ _ _ _ _ _⟩
                case measure => simp [intOf]; omega
        · obtain rfl : i = N := by omega
          have hend : L.drop i = [] := List.drop_of_length_le (by rw [HN.out]; exact Nat.le_refl _)
          rw [hend] at Hp
          have Hp2 : Hid (propF s = (nm, f, arg, q, d)) := Lib.hid Hp.out
          clear hend Hp
          have BW : Hid (Below W.heap.size W ((w1.alloc (.cells #[.string nm, .int .i64 f, .string arg, .bool q, .string d] 32)).drewN n2)) := Lib.hid (below_drewN (B1.out.alloc (Nat.le_of_lt hw1) _) n2)
          have x0 : ((w1.alloc (.cells #[.string nm, .int .i64 f, .string arg, .bool q, .string d] 32)).drewN n2).cell? ⟨w1.heap.size, 0, none⟩ = some (.string nm) := by simp [go_sem]
          have y0 : ((w1.alloc (.cells #[.string nm, .int .i64 f, .string arg, .bool q, .string d] 32)).drewN n2).cell? ⟨W.heap.size, 0, none⟩ = some (.string ⟨#[]⟩) := by simp [go_sem, hw1, c0]
          have z0 : ((w1.alloc (.cells #[.string nm, .int .i64 f, .string arg, .bool q, .string d] 32)).drewN n2).frozen? ⟨W.heap.size, 0, none⟩ = false := by simp [go_sem, hw1, f0]
          have x1 : ((w1.alloc (.cells #[.string nm, .int .i64 f, .string arg, .bool q, .string d] 32)).drewN n2).cell? ⟨w1.heap.size, 1, none⟩ = some (.int .i64 f) := by simp [go_sem]
          have y1 : ((w1.alloc (.cells #[.string nm, .int .i64 f, .string arg, .bool q, .string d] 32)).drewN n2).cell? ⟨W.heap.size, 1, none⟩ = some (.int .i64 0) := by simp [go_sem, hw1, c1']
          have z1 : ((w1.alloc (.cells #[.string nm, .int .i64 f, .string arg, .bool q, .string d] 32)).drewN n2).frozen? ⟨W.heap.size, 1, none⟩ = false := by simp [go_sem, hw1, f1]
          have x2 : ((w1.alloc (.cells #[.string nm, .int .i64 f, .string arg, .bool q, .string d] 32)).drewN n2).cell? ⟨w1.heap.size, 2, none⟩ = some (.string arg) := by simp [go_sem]
          have y2 : ((w1.alloc (.cells #[.string nm, .int .i64 f, .string arg, .bool q, .string d] 32)).drewN n2).cell? ⟨W.heap.size, 2, none⟩ = some (.string ⟨#[]⟩) := by simp [go_sem, hw1, c2]
          have z2 : ((w1.alloc (.cells #[.string nm, .int .i64 f, .string arg, .bool q, .string d] 32)).drewN n2).frozen? ⟨W.heap.size, 2, none⟩ = false := by simp [go_sem, hw1, f2]
          have x3 : ((w1.alloc (.cells #[.string nm, .int .i64 f, .string arg, .bool q, .string d] 32)).drewN n2).cell? ⟨w1.heap.size, 3, none⟩ = some (.bool q) := by simp [go_sem]
          have y3 : ((w1.alloc (.cells #[.string nm, .int .i64 f, .string arg, .bool q, .string d] 32)).drewN n2).cell? ⟨W.heap.size, 3, none⟩ = some (.bool false) := by simp [go_sem, hw1, c3]
          have z3 : ((w1.alloc (.cells #[.string nm, .int .i64 f, .string arg, .bool q, .string d] 32)).drewN n2).frozen? ⟨W.heap.size, 3, none⟩ = false := by simp [go_sem, hw1, f3]
          have x4 : ((w1.alloc (.cells #[.string nm, .int .i64 f, .string arg, .bool q, .string d] 32)).drewN n2).cell? ⟨w1.heap.size, 4, none⟩ = some (.string d) := by simp [go_sem]
          have y4 : ((w1.alloc (.cells #[.string nm, .int .i64 f, .string arg, .bool q, .string d] 32)).drewN n2).cell? ⟨W.heap.size, 4, none⟩ = some (.string ⟨#[]⟩) := by simp [go_sem, hw1, c4]
          have z4 : ((w1.alloc (.cells #[.string nm, .int .i64 f, .string arg, .bool q, .string d] 32)).drewN n2).frozen? ⟨W.heap.size, 4, none⟩ = false := by simp [go_sem, hw1, f4]
          generalize (w1.alloc (.cells #[.string nm, .int .i64 f, .string arg, .bool q, .string d] 32)).drewN n2 = W2 at *
          clear c0 c1' c2 c3 c4 f0 f1 f2 f3 f4 hlt hgW
          go_wp2_with fail
          refine bodyPost_ret (v := .agg #[.string nm, .int .i64 f, .string arg, .bool q, .string d]) (by simp [results, Try.results24, go_sem, y0, y1, y2, y3, y4, z0, z1, z2, z3, z4]) rfl ?_
          unfold PropEnd
          rw [Hp2.out]
          refine ⟨rfl, ((((BW.out.setCell (p := ⟨W.heap.size, 0, none⟩) (Nat.le_refl _) _).setCell (p := ⟨W.heap.size, 1, none⟩) (Nat.le_refl _) _).setCell (p := ⟨W.heap.size, 2, none⟩) (Nat.le_refl _) _).setCell (p := ⟨W.heap.size, 3, none⟩) (Nat.le_refl _) _).setCell (p := ⟨W.heap.size, 4, none⟩) (Nat.le_refl _) _⟩
end Go.Proofs.Ytijpbfafkdpolaa
