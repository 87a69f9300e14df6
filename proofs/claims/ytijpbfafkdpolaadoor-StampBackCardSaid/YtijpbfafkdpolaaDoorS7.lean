import Derived.Test.YtijpbfafkdpolaaDoorP2
import Derived.RegionTactic
namespace Go.Proofs.YtijpbfafkdpolaaDoor
open Go.RowKit Go.Shelf

def headOK (s : ByteArray) : Bool := decide (19 ≤ s.size) && okP s 19
def HeadPost (s : ByteArray) (w : World) (e : Ending) (w' : World) : Prop :=
  ∃ x0 x1 x2 x3 x4 x5 : Int, e = .returned (.tuple #[.agg #[.int .i64 x0, .int .i64 x1, .int .i64 x2, .int .i64 x3, .int .i64 x4, .int .i64 x5], .bool (headOK s)]) ∧
    (headOK s = true → x0 = numF s 0 4 ∧ x1 = numF s 5 2 ∧ x2 = numF s 8 2 ∧ x3 = numF s 11 2 ∧ x4 = numF s 14 2 ∧ x5 = numF s 17 2) ∧ Below w.heap.size w w'
/-- a number's digits among the first k bytes -/
def fieldP (s : ByteArray) (a n k : Nat) (x : Int) : Prop := x = decF (strN s a (min (k - a) n)) ∧ 0 ≤ x ∧ x < 10 ^ (min (k - a) n)
theorem field_start (s : ByteArray) (a n : Nat) : fieldP s a n 0 0 := by
  unfold fieldP
  rw [show min (0 - a) n = 0 by omega, strN_zero]
  exact ⟨rfl, Int.le_refl _, by decide⟩
theorem field_same {s : ByteArray} {a n k : Nat} {x : Int} (h : k < a ∨ a + n ≤ k) (hf : fieldP s a n k x) : fieldP s a n (k + 1) x := by
  unfold fieldP at *
  rw [show min (k + 1 - a) n = min (k - a) n by omega]
  exact hf
theorem field_step {s : ByteArray} {a n k : Nat} {x c : Int} (ha : a ≤ k) (hn : k < a + n) (hk : k < s.size) (hc : byteF s k = c) (h0 : 48 ≤ c) (h1 : c ≤ 57) (hf : fieldP s a n k x) : fieldP s a n (k + 1) (x * 10 + (c - 48)) := by
  obtain ⟨p, rfl⟩ : ∃ p, k = a + p := ⟨k - a, by omega⟩
  unfold fieldP at *
  rw [show min (a + p + 1 - a) n = p + 1 by omega]
  rw [show min (a + p - a) n = p by omega] at hf
  obtain ⟨hx, hx0, hx1⟩ := hf
  rw [strN_succ s a p hk, decF_app, ← hx, ← byteF_at s (a + p) hk, hc, Int.pow_succ]
  exact ⟨rfl, by omega, by omega⟩
theorem field_end {s : ByteArray} {a n : Nat} {x : Int} (h : a + n ≤ 19) (hf : fieldP s a n 19 x) : x = decF (strN s a n) := by
  have := hf.1
  rwa [show min (19 - a) n = n by omega] at this
theorem field_bd {s : ByteArray} {a n k : Nat} {x : Int} (hn : k < a + 4) (hf : fieldP s a n k x) : 0 ≤ x ∧ x ≤ 999 := by
  obtain ⟨_, h0, h1⟩ := hf
  have h2 : min (k - a) n ≤ 3 := by omega
  have h3 : (10 : Int) ^ (min (k - a) n) ≤ 1000 := by
    generalize min (k - a) n = m at h2
    match m, h2 with
    | 0, _ | 1, _ | 2, _ | 3, _ => decide
  omega
theorem okP_step {s : ByteArray} {k : Nat} {c : Int} (h : okP s k = true) (hc : byteF s k = c) (hr : rightB (formL.getD k 0) c = true) : okP s (k + 1) = true := by
  rw [okP_succ, h, hc, hr]; rfl
/-- the numbers of the first k bytes -/
def part6 (s : ByteArray) (k : Nat) (x0 x1 x2 x3 x4 x5 : Int) : Prop :=
  okP s k = true ∧ fieldP s 0 4 k x0 ∧ fieldP s 5 2 k x1 ∧ fieldP s 8 2 k x2 ∧ fieldP s 11 2 k x3 ∧ fieldP s 14 2 k x4 ∧ fieldP s 17 2 k x5
theorem head_no {s : ByteArray} (k : Nat) (hk : k < 19) (h : rightB (formL.getD k 0) (byteF s k) = false) : headOK s = false := by
  unfold headOK; rw [okP_no s k h hk]; simp
theorem headPost_no {s : ByteArray} {w w' : World} (h : headOK s = false) (x0 x1 x2 x3 x4 x5 : Int) (hb : Below w.heap.size w w') :
    HeadPost s w (.returned (.tuple #[.agg #[.int .i64 x0, .int .i64 x1, .int .i64 x2, .int .i64 x3, .int .i64 x4, .int .i64 x5], .bool false])) w' :=
  ⟨x0, x1, x2, x3, x4, x5, by rw [h], (fun h' => by rw [h] at h'; cases h'), hb⟩
theorem headPost_yes {s : ByteArray} {w w' : World} (hz : 19 ≤ s.size) (x0 x1 x2 x3 x4 x5 : Int) (hp : part6 s 19 x0 x1 x2 x3 x4 x5) (hb : Below w.heap.size w w') :
    HeadPost s w (.returned (.tuple #[.agg #[.int .i64 x0, .int .i64 x1, .int .i64 x2, .int .i64 x3, .int .i64 x4, .int .i64 x5], .bool true])) w' := by
  obtain ⟨h, f0, f1, f2, f3, f4, f5⟩ := hp
  have hk : headOK s = true := by unfold headOK; rw [decide_eq_true hz, h]; rfl
  refine ⟨x0, x1, x2, x3, x4, x5, by rw [hk], fun _ => ?_, hb⟩
  obtain ⟨⟨a0, a1, a2, a3⟩, _, ⟨b0, b1⟩, _, ⟨c0, c1⟩, _, ⟨d0, d1⟩, _, ⟨e0, e1⟩, _, g0, g1⟩ := (okP_19 s).1 h
  have two : ∀ a, a + 2 ≤ s.size → digB (byteF s a) = true → digB (byteF s (a + 1)) = true → numF s a 2 = decF (strN s a 2) := fun a ha h0 h1 => numF_yes (by rw [str2 s a ha]; simp [h0, h1])
  exact ⟨(field_end (by decide) f0).trans (numF_yes (by rw [str4 s 0 (by omega)]; simp [a0, a1, a2, a3])).symm, (field_end (by decide) f1).trans (two 5 (by omega) b0 b1).symm, (field_end (by decide) f2).trans (two 8 (by omega) c0 c1).symm,
    (field_end (by decide) f3).trans (two 11 (by omega) d0 d1).symm, (field_end (by decide) f4).trans (two 14 (by omega) e0 e1).symm, (field_end (by decide) f5).trans (two 17 (by omega) g0 g1).symm⟩
theorem below_drewN {B : Nat} {a w : World} (h : Below B a w) (n : Nat) : Below B a (w.drewN n) := ⟨h.os, h.tape, h.output, h.size, h.block⟩
theorem below_2 (w : World) (o1 o2 : Obj) (n : Nat) : Below w.heap.size w (((w.alloc o1).alloc o2).drewN n) := below_drewN (((Below.refl _ _).alloc (Nat.le_refl _) _).alloc (by simp) _) n
theorem put_cell (w : World) (o1 : Obj) (c : Array Value) (t : TypeId) (n i : Nat) (v : Value) : (((w.alloc o1).alloc (.cells c t)).drewN n).setCell ⟨w.heap.size + 1, i, none⟩ v = ((w.alloc o1).alloc (.cells (c.setIfInBounds i v) t)).drewN n := by
  show (((w.alloc o1).alloc (.cells c t)).setCell ⟨w.heap.size + 1, i, none⟩ v).drewN n = _
  rw [World.setCell_alloc_at c t _ i v (by simp)]
theorem below_6 (w : World) (o1 o2 : Obj) (n : Nat) (v0 v1 v2 v3 v4 v5 : Value) : Below w.heap.size w (((((((((w.alloc o1).alloc o2).drewN n).setCell ⟨w.heap.size, 0, none⟩ v0).setCell ⟨w.heap.size, 1, none⟩ v1).setCell ⟨w.heap.size, 2, none⟩ v2).setCell ⟨w.heap.size, 3, none⟩ v3).setCell ⟨w.heap.size, 4, none⟩ v4).setCell ⟨w.heap.size, 5, none⟩ v5) :=
  ((((((below_2 w o1 o2 n).setCell (Nat.le_refl _) _).setCell (Nat.le_refl _) _).setCell (Nat.le_refl _) _).setCell (Nat.le_refl _) _).setCell (Nat.le_refl _) _).setCell (Nat.le_refl _) _

set_option maxHeartbeats 16000000 in
theorem head_long (s : ByteArray) (hs : s.size ≤ 140737488355328) (hz : 19 ≤ s.size) (w : World) : Calls Tryd.prog 24 #[.string s] w (HeadPost s w) := by
  go_enter Tryd.func24, Tryd.ntmps24
  go_wp2
  go_loopw [5, 12] (fun t5 t12 wr => ∃ (k n : Nat) (kz a : Int) (x0 x1 x2 x3 x4 x5 : Int), k ≤ 19 ∧ t12 = .int .i64 kz ∧ t5 = .int .i64 a ∧ (k, kz, a) ∈ [(0, 0, 0), (1, 1, 0), (2, 2, 0), (3, 3, 0), (4, 4, 0), (5, 5, 1), (6, 6, 1), (7, 7, 1), (8, 8, 2), (9, 9, 2), (10, 10, 2), (11, 11, 3), (12, 12, 3), (13, 13, 3), (14, 14, 4), (15, 15, 4), (16, 16, 4), (17, 17, 5), (18, 18, 5), (19, 19, 5)] ∧ Hid (part6 s k x0 x1 x2 x3 x4 x5) ∧
      wr = ((w.alloc (.cells #[.int .i64 0, .int .i64 0, .int .i64 0, .int .i64 0, .int .i64 0, .int .i64 0] 43)).alloc (.cells #[.int .i64 x0, .int .i64 x1, .int .i64 x2, .int .i64 x3, .int .i64 x4, .int .i64 x5] 43)).drewN n) (fun _ t12 _ => 19 - (intOf t12).toNat)
  case atStart => exact ⟨0, 0, 0, 0, 0, 0, 0, 0, 0, 0, by omega, rfl, rfl, by decide, Lib.hid ⟨rfl, field_start _ _ _, field_start _ _ _, field_start _ _ _, field_start _ _ _, field_start _ _ _, field_start _ _ _⟩, rfl⟩
  case round =>
    obtain ⟨k, n, kz, a, x0, x1, x2, x3, x4, x5, hk, rfl, rfl, hka, Hp, rfl⟩ := hrel
    simp only [List.mem_cons, List.not_mem_nil, or_false, Prod.mk.injEq] at hka
    rcases hka with ⟨rfl, rfl, rfl⟩ | ⟨rfl, rfl, rfl⟩ | ⟨rfl, rfl, rfl⟩ | ⟨rfl, rfl, rfl⟩ | ⟨rfl, rfl, rfl⟩ | ⟨rfl, rfl, rfl⟩ | ⟨rfl, rfl, rfl⟩ | ⟨rfl, rfl, rfl⟩ | ⟨rfl, rfl, rfl⟩ | ⟨rfl, rfl, rfl⟩ | ⟨rfl, rfl, rfl⟩ | ⟨rfl, rfl, rfl⟩ | ⟨rfl, rfl, rfl⟩ | ⟨rfl, rfl, rfl⟩ | ⟨rfl, rfl, rfl⟩ | ⟨rfl, rfl, rfl⟩ | ⟨rfl, rfl, rfl⟩ | ⟨rfl, rfl, rfl⟩ | ⟨rfl, rfl, rfl⟩ | ⟨rfl, rfl, rfl⟩
    · have hk : 0 < s.size := by omega
      obtain ⟨c, hc⟩ : ∃ c : Int, ((s[0]'hk).toNat : Int) = c := ⟨_, rfl⟩
      have hcb : 0 ≤ c ∧ c ≤ 255 := by have := (s[0]'hk).toNat_lt; omega
      obtain ⟨hc0, hc1⟩ := hcb
      have Hb := Lib.hid (byteF_at s 0 hk)
      rw [hc] at Hb
      have hix : ∀ W : World, (Instr.index 9 (Value.string { data := #[48, 48, 48, 48, 45, 48, 48, 45, 48, 48, 84, 48, 48, 58, 48, 48, 58, 48, 48] }) (.int .i64 0)).run Tryd.prog W = .ok (.int .u8 48) W := fun _ => by kernel_rfl
      rcases (by omega : c < 48 ∨ 57 < c ∨ (48 ≤ c ∧ c ≤ 57)) with hd | hd | ⟨hd, hd'⟩
      · have Hr := Lib.hid (head_no (s := s) 0 (by decide) (show rightB 48 (byteF s 0) = false by rw [Hb.out]; exact decide_eq_false (by omega)))
        go_wp2_with fail
        go_quiet (fail)
        go_wp2_with fail
        exact bodyPost_ret (v := .tuple #[.agg #[.int .i64 x0, .int .i64 x1, .int .i64 x2, .int .i64 x3, .int .i64 x4, .int .i64 x5], .bool false]) (by simp [results, Tryd.results24, go_sem]) rfl (headPost_no Hr.out _ _ _ _ _ _ (below_6 _ _ _ _ _ _ _ _ _ _))
      · have Hr := Lib.hid (head_no (s := s) 0 (by decide) (show rightB 48 (byteF s 0) = false by rw [Hb.out]; exact decide_eq_false (by omega)))
        have d1 : decide (48 ≤ c) = true := decide_eq_true (by omega)
        have d2 : decide (c ≤ 57) = false := decide_eq_false (by omega)
        go_wp2_with fail
        go_quiet (fail)
        go_wp2_with fail
        exact bodyPost_ret (v := .tuple #[.agg #[.int .i64 x0, .int .i64 x1, .int .i64 x2, .int .i64 x3, .int .i64 x4, .int .i64 x5], .bool false]) (by simp [results, Tryd.results24, go_sem]) rfl (headPost_no Hr.out _ _ _ _ _ _ (below_6 _ _ _ _ _ _ _ _ _ _))
      · have Hn : Hid (part6 s 1 (x0 * 10 + (c - 48)) (x1) (x2) (x3) (x4) (x5)) := Lib.hid ⟨okP_step Hp.out.1 Hb.out (show rightB 48 c = true from decide_eq_true ⟨hd, hd'⟩), field_step (by omega) (by omega) hk Hb.out hd hd' Hp.out.2.1, field_same (by omega) Hp.out.2.2.1, field_same (by omega) Hp.out.2.2.2.1, field_same (by omega) Hp.out.2.2.2.2.1, field_same (by omega) Hp.out.2.2.2.2.2.1, field_same (by omega) Hp.out.2.2.2.2.2.2⟩
        obtain ⟨hx0, hx1⟩ := field_bd (by omega) Hp.out.2.1
        go_wp2_with fail
        go_quiet (fail)
        go_wp2_with fail
        have r1 : IntKind.u8.wrap (c - 48) = c - 48 := by simp only [IntKind.wrap_u8]; omega
        have r2 : IntKind.i64.wrap (c - 48) = c - 48 := by simp only [IntKind.wrap_i64]; omega
        have r3 : IntKind.i64.wrap (x0 * 10) = x0 * 10 := by simp only [IntKind.wrap_i64]; omega
        have r4 : IntKind.i64.wrap (x0 * 10 + (c - 48)) = x0 * 10 + (c - 48) := by simp only [IntKind.wrap_i64]; omega
        go_region
        clear r1 r2 r3 r4
        go_wp2_with fail
        go_roundw
        case rel => exact ⟨1, _, 1, 0, x0 * 10 + (c - 48), x1, x2, x3, x4, x5, by omega, by go_num, by go_num, by decide, Hn, put_cell _ _ _ _ _ _ _⟩
        case measure => simp [intOf]
    · have hk : 1 < s.size := by omega
      obtain ⟨c, hc⟩ : ∃ c : Int, ((s[1]'hk).toNat : Int) = c := ⟨_, rfl⟩
      have hcb : 0 ≤ c ∧ c ≤ 255 := by have := (s[1]'hk).toNat_lt; omega
      obtain ⟨hc0, hc1⟩ := hcb
      have Hb := Lib.hid (byteF_at s 1 hk)
      rw [hc] at Hb
      have hix : ∀ W : World, (Instr.index 9 (Value.string { data := #[48, 48, 48, 48, 45, 48, 48, 45, 48, 48, 84, 48, 48, 58, 48, 48, 58, 48, 48] }) (.int .i64 1)).run Tryd.prog W = .ok (.int .u8 48) W := fun _ => by kernel_rfl
      rcases (by omega : c < 48 ∨ 57 < c ∨ (48 ≤ c ∧ c ≤ 57)) with hd | hd | ⟨hd, hd'⟩
      · have Hr := Lib.hid (head_no (s := s) 1 (by decide) (show rightB 48 (byteF s 1) = false by rw [Hb.out]; exact decide_eq_false (by omega)))
        go_wp2_with fail
        go_quiet (fail)
        go_wp2_with fail
        exact bodyPost_ret (v := .tuple #[.agg #[.int .i64 x0, .int .i64 x1, .int .i64 x2, .int .i64 x3, .int .i64 x4, .int .i64 x5], .bool false]) (by simp [results, Tryd.results24, go_sem]) rfl (headPost_no Hr.out _ _ _ _ _ _ (below_6 _ _ _ _ _ _ _ _ _ _))
      · have Hr := Lib.hid (head_no (s := s) 1 (by decide) (show rightB 48 (byteF s 1) = false by rw [Hb.out]; exact decide_eq_false (by omega)))
        have d1 : decide (48 ≤ c) = true := decide_eq_true (by omega)
        have d2 : decide (c ≤ 57) = false := decide_eq_false (by omega)
        go_wp2_with fail
        go_quiet (fail)
        go_wp2_with fail
        exact bodyPost_ret (v := .tuple #[.agg #[.int .i64 x0, .int .i64 x1, .int .i64 x2, .int .i64 x3, .int .i64 x4, .int .i64 x5], .bool false]) (by simp [results, Tryd.results24, go_sem]) rfl (headPost_no Hr.out _ _ _ _ _ _ (below_6 _ _ _ _ _ _ _ _ _ _))
      · have Hn : Hid (part6 s 2 (x0 * 10 + (c - 48)) (x1) (x2) (x3) (x4) (x5)) := Lib.hid ⟨okP_step Hp.out.1 Hb.out (show rightB 48 c = true from decide_eq_true ⟨hd, hd'⟩), field_step (by omega) (by omega) hk Hb.out hd hd' Hp.out.2.1, field_same (by omega) Hp.out.2.2.1, field_same (by omega) Hp.out.2.2.2.1, field_same (by omega) Hp.out.2.2.2.2.1, field_same (by omega) Hp.out.2.2.2.2.2.1, field_same (by omega) Hp.out.2.2.2.2.2.2⟩
        obtain ⟨hx0, hx1⟩ := field_bd (by omega) Hp.out.2.1
        go_wp2_with fail
        go_quiet (fail)
        go_wp2_with fail
        have r1 : IntKind.u8.wrap (c - 48) = c - 48 := by simp only [IntKind.wrap_u8]; omega
        have r2 : IntKind.i64.wrap (c - 48) = c - 48 := by simp only [IntKind.wrap_i64]; omega
        have r3 : IntKind.i64.wrap (x0 * 10) = x0 * 10 := by simp only [IntKind.wrap_i64]; omega
        have r4 : IntKind.i64.wrap (x0 * 10 + (c - 48)) = x0 * 10 + (c - 48) := by simp only [IntKind.wrap_i64]; omega
        go_region
        clear r1 r2 r3 r4
        go_wp2_with fail
        go_roundw
        case rel => exact ⟨2, _, 2, 0, x0 * 10 + (c - 48), x1, x2, x3, x4, x5, by omega, by go_num, by go_num, by decide, Hn, put_cell _ _ _ _ _ _ _⟩
        case measure => simp [intOf]
    · have hk : 2 < s.size := by omega
      obtain ⟨c, hc⟩ : ∃ c : Int, ((s[2]'hk).toNat : Int) = c := ⟨_, rfl⟩
      have hcb : 0 ≤ c ∧ c ≤ 255 := by have := (s[2]'hk).toNat_lt; omega
      obtain ⟨hc0, hc1⟩ := hcb
      have Hb := Lib.hid (byteF_at s 2 hk)
      rw [hc] at Hb
      have hix : ∀ W : World, (Instr.index 9 (Value.string { data := #[48, 48, 48, 48, 45, 48, 48, 45, 48, 48, 84, 48, 48, 58, 48, 48, 58, 48, 48] }) (.int .i64 2)).run Tryd.prog W = .ok (.int .u8 48) W := fun _ => by kernel_rfl
      rcases (by omega : c < 48 ∨ 57 < c ∨ (48 ≤ c ∧ c ≤ 57)) with hd | hd | ⟨hd, hd'⟩
      · have Hr := Lib.hid (head_no (s := s) 2 (by decide) (show rightB 48 (byteF s 2) = false by rw [Hb.out]; exact decide_eq_false (by omega)))
        go_wp2_with fail
        go_quiet (fail)
        go_wp2_with fail
        exact bodyPost_ret (v := .tuple #[.agg #[.int .i64 x0, .int .i64 x1, .int .i64 x2, .int .i64 x3, .int .i64 x4, .int .i64 x5], .bool false]) (by simp [results, Tryd.results24, go_sem]) rfl (headPost_no Hr.out _ _ _ _ _ _ (below_6 _ _ _ _ _ _ _ _ _ _))
      · have Hr := Lib.hid (head_no (s := s) 2 (by decide) (show rightB 48 (byteF s 2) = false by rw [Hb.out]; exact decide_eq_false (by omega)))
        have d1 : decide (48 ≤ c) = true := decide_eq_true (by omega)
        have d2 : decide (c ≤ 57) = false := decide_eq_false (by omega)
        go_wp2_with fail
        go_quiet (fail)
        go_wp2_with fail
        exact bodyPost_ret (v := .tuple #[.agg #[.int .i64 x0, .int .i64 x1, .int .i64 x2, .int .i64 x3, .int .i64 x4, .int .i64 x5], .bool false]) (by simp [results, Tryd.results24, go_sem]) rfl (headPost_no Hr.out _ _ _ _ _ _ (below_6 _ _ _ _ _ _ _ _ _ _))
      · have Hn : Hid (part6 s 3 (x0 * 10 + (c - 48)) (x1) (x2) (x3) (x4) (x5)) := Lib.hid ⟨okP_step Hp.out.1 Hb.out (show rightB 48 c = true from decide_eq_true ⟨hd, hd'⟩), field_step (by omega) (by omega) hk Hb.out hd hd' Hp.out.2.1, field_same (by omega) Hp.out.2.2.1, field_same (by omega) Hp.out.2.2.2.1, field_same (by omega) Hp.out.2.2.2.2.1, field_same (by omega) Hp.out.2.2.2.2.2.1, field_same (by omega) Hp.out.2.2.2.2.2.2⟩
        obtain ⟨hx0, hx1⟩ := field_bd (by omega) Hp.out.2.1
        go_wp2_with fail
        go_quiet (fail)
        go_wp2_with fail
        have r1 : IntKind.u8.wrap (c - 48) = c - 48 := by simp only [IntKind.wrap_u8]; omega
        have r2 : IntKind.i64.wrap (c - 48) = c - 48 := by simp only [IntKind.wrap_i64]; omega
        have r3 : IntKind.i64.wrap (x0 * 10) = x0 * 10 := by simp only [IntKind.wrap_i64]; omega
        have r4 : IntKind.i64.wrap (x0 * 10 + (c - 48)) = x0 * 10 + (c - 48) := by simp only [IntKind.wrap_i64]; omega
        go_region
        clear r1 r2 r3 r4
        go_wp2_with fail
        go_roundw
        case rel => exact ⟨3, _, 3, 0, x0 * 10 + (c - 48), x1, x2, x3, x4, x5, by omega, by go_num, by go_num, by decide, Hn, put_cell _ _ _ _ _ _ _⟩
        case measure => simp [intOf]
    · have hk : 3 < s.size := by omega
      obtain ⟨c, hc⟩ : ∃ c : Int, ((s[3]'hk).toNat : Int) = c := ⟨_, rfl⟩
      have hcb : 0 ≤ c ∧ c ≤ 255 := by have := (s[3]'hk).toNat_lt; omega
      obtain ⟨hc0, hc1⟩ := hcb
      have Hb := Lib.hid (byteF_at s 3 hk)
      rw [hc] at Hb
      have hix : ∀ W : World, (Instr.index 9 (Value.string { data := #[48, 48, 48, 48, 45, 48, 48, 45, 48, 48, 84, 48, 48, 58, 48, 48, 58, 48, 48] }) (.int .i64 3)).run Tryd.prog W = .ok (.int .u8 48) W := fun _ => by kernel_rfl
      rcases (by omega : c < 48 ∨ 57 < c ∨ (48 ≤ c ∧ c ≤ 57)) with hd | hd | ⟨hd, hd'⟩
      · have Hr := Lib.hid (head_no (s := s) 3 (by decide) (show rightB 48 (byteF s 3) = false by rw [Hb.out]; exact decide_eq_false (by omega)))
        go_wp2_with fail
        go_quiet (fail)
        go_wp2_with fail
        exact bodyPost_ret (v := .tuple #[.agg #[.int .i64 x0, .int .i64 x1, .int .i64 x2, .int .i64 x3, .int .i64 x4, .int .i64 x5], .bool false]) (by simp [results, Tryd.results24, go_sem]) rfl (headPost_no Hr.out _ _ _ _ _ _ (below_6 _ _ _ _ _ _ _ _ _ _))
      · have Hr := Lib.hid (head_no (s := s) 3 (by decide) (show rightB 48 (byteF s 3) = false by rw [Hb.out]; exact decide_eq_false (by omega)))
        have d1 : decide (48 ≤ c) = true := decide_eq_true (by omega)
        have d2 : decide (c ≤ 57) = false := decide_eq_false (by omega)
        go_wp2_with fail
        go_quiet (fail)
        go_wp2_with fail
        exact bodyPost_ret (v := .tuple #[.agg #[.int .i64 x0, .int .i64 x1, .int .i64 x2, .int .i64 x3, .int .i64 x4, .int .i64 x5], .bool false]) (by simp [results, Tryd.results24, go_sem]) rfl (headPost_no Hr.out _ _ _ _ _ _ (below_6 _ _ _ _ _ _ _ _ _ _))
      · have Hn : Hid (part6 s 4 (x0 * 10 + (c - 48)) (x1) (x2) (x3) (x4) (x5)) := Lib.hid ⟨okP_step Hp.out.1 Hb.out (show rightB 48 c = true from decide_eq_true ⟨hd, hd'⟩), field_step (by omega) (by omega) hk Hb.out hd hd' Hp.out.2.1, field_same (by omega) Hp.out.2.2.1, field_same (by omega) Hp.out.2.2.2.1, field_same (by omega) Hp.out.2.2.2.2.1, field_same (by omega) Hp.out.2.2.2.2.2.1, field_same (by omega) Hp.out.2.2.2.2.2.2⟩
        obtain ⟨hx0, hx1⟩ := field_bd (by omega) Hp.out.2.1
        go_wp2_with fail
        go_quiet (fail)
        go_wp2_with fail
        have r1 : IntKind.u8.wrap (c - 48) = c - 48 := by simp only [IntKind.wrap_u8]; omega
        have r2 : IntKind.i64.wrap (c - 48) = c - 48 := by simp only [IntKind.wrap_i64]; omega
        have r3 : IntKind.i64.wrap (x0 * 10) = x0 * 10 := by simp only [IntKind.wrap_i64]; omega
        have r4 : IntKind.i64.wrap (x0 * 10 + (c - 48)) = x0 * 10 + (c - 48) := by simp only [IntKind.wrap_i64]; omega
        go_region
        clear r1 r2 r3 r4
        go_wp2_with fail
        go_roundw
        case rel => exact ⟨4, _, 4, 0, x0 * 10 + (c - 48), x1, x2, x3, x4, x5, by omega, by go_num, by go_num, by decide, Hn, put_cell _ _ _ _ _ _ _⟩
        case measure => simp [intOf]
    · have hk : 4 < s.size := by omega
      obtain ⟨c, hc⟩ : ∃ c : Int, ((s[4]'hk).toNat : Int) = c := ⟨_, rfl⟩
      have hcb : 0 ≤ c ∧ c ≤ 255 := by have := (s[4]'hk).toNat_lt; omega
      obtain ⟨hc0, hc1⟩ := hcb
      have Hb := Lib.hid (byteF_at s 4 hk)
      rw [hc] at Hb
      have hix : ∀ W : World, (Instr.index 9 (Value.string { data := #[48, 48, 48, 48, 45, 48, 48, 45, 48, 48, 84, 48, 48, 58, 48, 48, 58, 48, 48] }) (.int .i64 4)).run Tryd.prog W = .ok (.int .u8 45) W := fun _ => by kernel_rfl
      rcases (by omega : c = 45 ∨ (c < 48 ∧ c ≠ 45) ∨ (57 < c ∧ c ≠ 45) ∨ (48 ≤ c ∧ c ≤ 57)) with rfl | ⟨hd, hne⟩ | ⟨hd, hne⟩ | ⟨hd, hd'⟩
      · have Hn : Hid (part6 s 5 x0 x1 x2 x3 x4 x5) := Lib.hid ⟨okP_step Hp.out.1 Hb.out (show rightB 45 45 = true from rfl), field_same (by omega) Hp.out.2.1, field_same (by omega) Hp.out.2.2.1, field_same (by omega) Hp.out.2.2.2.1, field_same (by omega) Hp.out.2.2.2.2.1, field_same (by omega) Hp.out.2.2.2.2.2.1, field_same (by omega) Hp.out.2.2.2.2.2.2⟩
        go_wp2_with fail
        go_quiet (fail)
        go_wp2_with fail
        go_roundw
        case rel => exact ⟨5, _, 5, 1, x0, x1, x2, x3, x4, x5, by omega, by go_num, by go_num, by decide, Hn, rfl⟩
        case measure => simp [intOf]
      · have Hr := Lib.hid (head_no (s := s) 4 (by decide) (show rightB 45 (byteF s 4) = false by rw [Hb.out]; exact decide_eq_false (by omega)))
        have bne : (c == 45) = false := beq_eq_false_iff_ne.2 hne
        go_wp2_with fail
        go_quiet (fail)
        go_wp2_with fail
        exact bodyPost_ret (v := .tuple #[.agg #[.int .i64 x0, .int .i64 x1, .int .i64 x2, .int .i64 x3, .int .i64 x4, .int .i64 x5], .bool false]) (by simp [results, Tryd.results24, go_sem]) rfl (headPost_no Hr.out _ _ _ _ _ _ (below_6 _ _ _ _ _ _ _ _ _ _))
      · have Hr := Lib.hid (head_no (s := s) 4 (by decide) (show rightB 45 (byteF s 4) = false by rw [Hb.out]; exact decide_eq_false (by omega)))
        have d1 : decide (48 ≤ c) = true := decide_eq_true (by omega)
        have d2 : decide (c ≤ 57) = false := decide_eq_false (by omega)
        have bne : (c == 45) = false := beq_eq_false_iff_ne.2 hne
        go_wp2_with fail
        go_quiet (fail)
        go_wp2_with fail
        exact bodyPost_ret (v := .tuple #[.agg #[.int .i64 x0, .int .i64 x1, .int .i64 x2, .int .i64 x3, .int .i64 x4, .int .i64 x5], .bool false]) (by simp [results, Tryd.results24, go_sem]) rfl (headPost_no Hr.out _ _ _ _ _ _ (below_6 _ _ _ _ _ _ _ _ _ _))
      · have Hr := Lib.hid (head_no (s := s) 4 (by decide) (show rightB 45 (byteF s 4) = false by rw [Hb.out]; exact decide_eq_false (by omega)))
        go_wp2_with fail
        go_quiet (fail)
        go_wp2_with fail
        exact bodyPost_ret (v := .tuple #[.agg #[.int .i64 x0, .int .i64 x1, .int .i64 x2, .int .i64 x3, .int .i64 x4, .int .i64 x5], .bool false]) (by simp [results, Tryd.results24, go_sem]) rfl (headPost_no Hr.out _ _ _ _ _ _ (below_6 _ _ _ _ _ _ _ _ _ _))
    · have hk : 5 < s.size := by omega
      obtain ⟨c, hc⟩ : ∃ c : Int, ((s[5]'hk).toNat : Int) = c := ⟨_, rfl⟩
      have hcb : 0 ≤ c ∧ c ≤ 255 := by have := (s[5]'hk).toNat_lt; omega
      obtain ⟨hc0, hc1⟩ := hcb
      have Hb := Lib.hid (byteF_at s 5 hk)
      rw [hc] at Hb
      have hix : ∀ W : World, (Instr.index 9 (Value.string { data := #[48, 48, 48, 48, 45, 48, 48, 45, 48, 48, 84, 48, 48, 58, 48, 48, 58, 48, 48] }) (.int .i64 5)).run Tryd.prog W = .ok (.int .u8 48) W := fun _ => by kernel_rfl
      rcases (by omega : c < 48 ∨ 57 < c ∨ (48 ≤ c ∧ c ≤ 57)) with hd | hd | ⟨hd, hd'⟩
      · have Hr := Lib.hid (head_no (s := s) 5 (by decide) (show rightB 48 (byteF s 5) = false by rw [Hb.out]; exact decide_eq_false (by omega)))
        go_wp2_with fail
        go_quiet (fail)
        go_wp2_with fail
        exact bodyPost_ret (v := .tuple #[.agg #[.int .i64 x0, .int .i64 x1, .int .i64 x2, .int .i64 x3, .int .i64 x4, .int .i64 x5], .bool false]) (by simp [results, Tryd.results24, go_sem]) rfl (headPost_no Hr.out _ _ _ _ _ _ (below_6 _ _ _ _ _ _ _ _ _ _))
      · have Hr := Lib.hid (head_no (s := s) 5 (by decide) (show rightB 48 (byteF s 5) = false by rw [Hb.out]; exact decide_eq_false (by omega)))
        have d1 : decide (48 ≤ c) = true := decide_eq_true (by omega)
        have d2 : decide (c ≤ 57) = false := decide_eq_false (by omega)
        go_wp2_with fail
        go_quiet (fail)
        go_wp2_with fail
        exact bodyPost_ret (v := .tuple #[.agg #[.int .i64 x0, .int .i64 x1, .int .i64 x2, .int .i64 x3, .int .i64 x4, .int .i64 x5], .bool false]) (by simp [results, Tryd.results24, go_sem]) rfl (headPost_no Hr.out _ _ _ _ _ _ (below_6 _ _ _ _ _ _ _ _ _ _))
      · have Hn : Hid (part6 s 6 (x0) (x1 * 10 + (c - 48)) (x2) (x3) (x4) (x5)) := Lib.hid ⟨okP_step Hp.out.1 Hb.out (show rightB 48 c = true from decide_eq_true ⟨hd, hd'⟩), field_same (by omega) Hp.out.2.1, field_step (by omega) (by omega) hk Hb.out hd hd' Hp.out.2.2.1, field_same (by omega) Hp.out.2.2.2.1, field_same (by omega) Hp.out.2.2.2.2.1, field_same (by omega) Hp.out.2.2.2.2.2.1, field_same (by omega) Hp.out.2.2.2.2.2.2⟩
        obtain ⟨hx0, hx1⟩ := field_bd (by omega) Hp.out.2.2.1
        go_wp2_with fail
        go_quiet (fail)
        go_wp2_with fail
        have r1 : IntKind.u8.wrap (c - 48) = c - 48 := by simp only [IntKind.wrap_u8]; omega
        have r2 : IntKind.i64.wrap (c - 48) = c - 48 := by simp only [IntKind.wrap_i64]; omega
        have r3 : IntKind.i64.wrap (x1 * 10) = x1 * 10 := by simp only [IntKind.wrap_i64]; omega
        have r4 : IntKind.i64.wrap (x1 * 10 + (c - 48)) = x1 * 10 + (c - 48) := by simp only [IntKind.wrap_i64]; omega
        go_region
        clear r1 r2 r3 r4
        go_wp2_with fail
        go_roundw
        case rel => exact ⟨6, _, 6, 1, x0, x1 * 10 + (c - 48), x2, x3, x4, x5, by omega, by go_num, by go_num, by decide, Hn, put_cell _ _ _ _ _ _ _⟩
        case measure => simp [intOf]
    · have hk : 6 < s.size := by omega
      obtain ⟨c, hc⟩ : ∃ c : Int, ((s[6]'hk).toNat : Int) = c := ⟨_, rfl⟩
      have hcb : 0 ≤ c ∧ c ≤ 255 := by have := (s[6]'hk).toNat_lt; omega
      obtain ⟨hc0, hc1⟩ := hcb
      have Hb := Lib.hid (byteF_at s 6 hk)
      rw [hc] at Hb
      have hix : ∀ W : World, (Instr.index 9 (Value.string { data := #[48, 48, 48, 48, 45, 48, 48, 45, 48, 48, 84, 48, 48, 58, 48, 48, 58, 48, 48] }) (.int .i64 6)).run Tryd.prog W = .ok (.int .u8 48) W := fun _ => by kernel_rfl
      rcases (by omega : c < 48 ∨ 57 < c ∨ (48 ≤ c ∧ c ≤ 57)) with hd | hd | ⟨hd, hd'⟩
      · have Hr := Lib.hid (head_no (s := s) 6 (by decide) (show rightB 48 (byteF s 6) = false by rw [Hb.out]; exact decide_eq_false (by omega)))
        go_wp2_with fail
        go_quiet (fail)
        go_wp2_with fail
        exact bodyPost_ret (v := .tuple #[.agg #[.int .i64 x0, .int .i64 x1, .int .i64 x2, .int .i64 x3, .int .i64 x4, .int .i64 x5], .bool false]) (by simp [results, Tryd.results24, go_sem]) rfl (headPost_no Hr.out _ _ _ _ _ _ (below_6 _ _ _ _ _ _ _ _ _ _))
      · have Hr := Lib.hid (head_no (s := s) 6 (by decide) (show rightB 48 (byteF s 6) = false by rw [Hb.out]; exact decide_eq_false (by omega)))
        have d1 : decide (48 ≤ c) = true := decide_eq_true (by omega)
        have d2 : decide (c ≤ 57) = false := decide_eq_false (by omega)
        go_wp2_with fail
        go_quiet (fail)
        go_wp2_with fail
        exact bodyPost_ret (v := .tuple #[.agg #[.int .i64 x0, .int .i64 x1, .int .i64 x2, .int .i64 x3, .int .i64 x4, .int .i64 x5], .bool false]) (by simp [results, Tryd.results24, go_sem]) rfl (headPost_no Hr.out _ _ _ _ _ _ (below_6 _ _ _ _ _ _ _ _ _ _))
      · have Hn : Hid (part6 s 7 (x0) (x1 * 10 + (c - 48)) (x2) (x3) (x4) (x5)) := Lib.hid ⟨okP_step Hp.out.1 Hb.out (show rightB 48 c = true from decide_eq_true ⟨hd, hd'⟩), field_same (by omega) Hp.out.2.1, field_step (by omega) (by omega) hk Hb.out hd hd' Hp.out.2.2.1, field_same (by omega) Hp.out.2.2.2.1, field_same (by omega) Hp.out.2.2.2.2.1, field_same (by omega) Hp.out.2.2.2.2.2.1, field_same (by omega) Hp.out.2.2.2.2.2.2⟩
        obtain ⟨hx0, hx1⟩ := field_bd (by omega) Hp.out.2.2.1
        go_wp2_with fail
        go_quiet (fail)
        go_wp2_with fail
        have r1 : IntKind.u8.wrap (c - 48) = c - 48 := by simp only [IntKind.wrap_u8]; omega
        have r2 : IntKind.i64.wrap (c - 48) = c - 48 := by simp only [IntKind.wrap_i64]; omega
        have r3 : IntKind.i64.wrap (x1 * 10) = x1 * 10 := by simp only [IntKind.wrap_i64]; omega
        have r4 : IntKind.i64.wrap (x1 * 10 + (c - 48)) = x1 * 10 + (c - 48) := by simp only [IntKind.wrap_i64]; omega
        go_region
        clear r1 r2 r3 r4
        go_wp2_with fail
        go_roundw
        case rel => exact ⟨7, _, 7, 1, x0, x1 * 10 + (c - 48), x2, x3, x4, x5, by omega, by go_num, by go_num, by decide, Hn, put_cell _ _ _ _ _ _ _⟩
        case measure => simp [intOf]
    · have hk : 7 < s.size := by omega
      obtain ⟨c, hc⟩ : ∃ c : Int, ((s[7]'hk).toNat : Int) = c := ⟨_, rfl⟩
      have hcb : 0 ≤ c ∧ c ≤ 255 := by have := (s[7]'hk).toNat_lt; omega
      obtain ⟨hc0, hc1⟩ := hcb
      have Hb := Lib.hid (byteF_at s 7 hk)
      rw [hc] at Hb
      have hix : ∀ W : World, (Instr.index 9 (Value.string { data := #[48, 48, 48, 48, 45, 48, 48, 45, 48, 48, 84, 48, 48, 58, 48, 48, 58, 48, 48] }) (.int .i64 7)).run Tryd.prog W = .ok (.int .u8 45) W := fun _ => by kernel_rfl
      rcases (by omega : c = 45 ∨ (c < 48 ∧ c ≠ 45) ∨ (57 < c ∧ c ≠ 45) ∨ (48 ≤ c ∧ c ≤ 57)) with rfl | ⟨hd, hne⟩ | ⟨hd, hne⟩ | ⟨hd, hd'⟩
      · have Hn : Hid (part6 s 8 x0 x1 x2 x3 x4 x5) := Lib.hid ⟨okP_step Hp.out.1 Hb.out (show rightB 45 45 = true from rfl), field_same (by omega) Hp.out.2.1, field_same (by omega) Hp.out.2.2.1, field_same (by omega) Hp.out.2.2.2.1, field_same (by omega) Hp.out.2.2.2.2.1, field_same (by omega) Hp.out.2.2.2.2.2.1, field_same (by omega) Hp.out.2.2.2.2.2.2⟩
        go_wp2_with fail
        go_quiet (fail)
        go_wp2_with fail
        go_roundw
        case rel => exact ⟨8, _, 8, 2, x0, x1, x2, x3, x4, x5, by omega, by go_num, by go_num, by decide, Hn, rfl⟩
        case measure => simp [intOf]
      · have Hr := Lib.hid (head_no (s := s) 7 (by decide) (show rightB 45 (byteF s 7) = false by rw [Hb.out]; exact decide_eq_false (by omega)))
        have bne : (c == 45) = false := beq_eq_false_iff_ne.2 hne
        go_wp2_with fail
        go_quiet (fail)
        go_wp2_with fail
        exact bodyPost_ret (v := .tuple #[.agg #[.int .i64 x0, .int .i64 x1, .int .i64 x2, .int .i64 x3, .int .i64 x4, .int .i64 x5], .bool false]) (by simp [results, Tryd.results24, go_sem]) rfl (headPost_no Hr.out _ _ _ _ _ _ (below_6 _ _ _ _ _ _ _ _ _ _))
      · have Hr := Lib.hid (head_no (s := s) 7 (by decide) (show rightB 45 (byteF s 7) = false by rw [Hb.out]; exact decide_eq_false (by omega)))
        have d1 : decide (48 ≤ c) = true := decide_eq_true (by omega)
        have d2 : decide (c ≤ 57) = false := decide_eq_false (by omega)
        have bne : (c == 45) = false := beq_eq_false_iff_ne.2 hne
        go_wp2_with fail
        go_quiet (fail)
        go_wp2_with fail
        exact bodyPost_ret (v := .tuple #[.agg #[.int .i64 x0, .int .i64 x1, .int .i64 x2, .int .i64 x3, .int .i64 x4, .int .i64 x5], .bool false]) (by simp [results, Tryd.results24, go_sem]) rfl (headPost_no Hr.out _ _ _ _ _ _ (below_6 _ _ _ _ _ _ _ _ _ _))
      · have Hr := Lib.hid (head_no (s := s) 7 (by decide) (show rightB 45 (byteF s 7) = false by rw [Hb.out]; exact decide_eq_false (by omega)))
        go_wp2_with fail
        go_quiet (fail)
        go_wp2_with fail
        exact bodyPost_ret (v := .tuple #[.agg #[.int .i64 x0, .int .i64 x1, .int .i64 x2, .int .i64 x3, .int .i64 x4, .int .i64 x5], .bool false]) (by simp [results, Tryd.results24, go_sem]) rfl (headPost_no Hr.out _ _ _ _ _ _ (below_6 _ _ _ _ _ _ _ _ _ _))
    · have hk : 8 < s.size := by omega
      obtain ⟨c, hc⟩ : ∃ c : Int, ((s[8]'hk).toNat : Int) = c := ⟨_, rfl⟩
      have hcb : 0 ≤ c ∧ c ≤ 255 := by have := (s[8]'hk).toNat_lt; omega
      obtain ⟨hc0, hc1⟩ := hcb
      have Hb := Lib.hid (byteF_at s 8 hk)
      rw [hc] at Hb
      have hix : ∀ W : World, (Instr.index 9 (Value.string { data := #[48, 48, 48, 48, 45, 48, 48, 45, 48, 48, 84, 48, 48, 58, 48, 48, 58, 48, 48] }) (.int .i64 8)).run Tryd.prog W = .ok (.int .u8 48) W := fun _ => by kernel_rfl
      rcases (by omega : c < 48 ∨ 57 < c ∨ (48 ≤ c ∧ c ≤ 57)) with hd | hd | ⟨hd, hd'⟩
      · have Hr := Lib.hid (head_no (s := s) 8 (by decide) (show rightB 48 (byteF s 8) = false by rw [Hb.out]; exact decide_eq_false (by omega)))
        go_wp2_with fail
        go_quiet (fail)
        go_wp2_with fail
        exact bodyPost_ret (v := .tuple #[.agg #[.int .i64 x0, .int .i64 x1, .int .i64 x2, .int .i64 x3, .int .i64 x4, .int .i64 x5], .bool false]) (by simp [results, Tryd.results24, go_sem]) rfl (headPost_no Hr.out _ _ _ _ _ _ (below_6 _ _ _ _ _ _ _ _ _ _))
      · have Hr := Lib.hid (head_no (s := s) 8 (by decide) (show rightB 48 (byteF s 8) = false by rw [Hb.out]; exact decide_eq_false (by omega)))
        have d1 : decide (48 ≤ c) = true := decide_eq_true (by omega)
        have d2 : decide (c ≤ 57) = false := decide_eq_false (by omega)
        go_wp2_with fail
        go_quiet (fail)
        go_wp2_with fail
        exact bodyPost_ret (v := .tuple #[.agg #[.int .i64 x0, .int .i64 x1, .int .i64 x2, .int .i64 x3, .int .i64 x4, .int .i64 x5], .bool false]) (by simp [results, Tryd.results24, go_sem]) rfl (headPost_no Hr.out _ _ _ _ _ _ (below_6 _ _ _ _ _ _ _ _ _ _))
      · have Hn : Hid (part6 s 9 (x0) (x1) (x2 * 10 + (c - 48)) (x3) (x4) (x5)) := Lib.hid ⟨okP_step Hp.out.1 Hb.out (show rightB 48 c = true from decide_eq_true ⟨hd, hd'⟩), field_same (by omega) Hp.out.2.1, field_same (by omega) Hp.out.2.2.1, field_step (by omega) (by omega) hk Hb.out hd hd' Hp.out.2.2.2.1, field_same (by omega) Hp.out.2.2.2.2.1, field_same (by omega) Hp.out.2.2.2.2.2.1, field_same (by omega) Hp.out.2.2.2.2.2.2⟩
        obtain ⟨hx0, hx1⟩ := field_bd (by omega) Hp.out.2.2.2.1
        go_wp2_with fail
        go_quiet (fail)
        go_wp2_with fail
        have r1 : IntKind.u8.wrap (c - 48) = c - 48 := by simp only [IntKind.wrap_u8]; omega
        have r2 : IntKind.i64.wrap (c - 48) = c - 48 := by simp only [IntKind.wrap_i64]; omega
        have r3 : IntKind.i64.wrap (x2 * 10) = x2 * 10 := by simp only [IntKind.wrap_i64]; omega
        have r4 : IntKind.i64.wrap (x2 * 10 + (c - 48)) = x2 * 10 + (c - 48) := by simp only [IntKind.wrap_i64]; omega
        go_region
        clear r1 r2 r3 r4
        go_wp2_with fail
        go_roundw
        case rel => exact ⟨9, _, 9, 2, x0, x1, x2 * 10 + (c - 48), x3, x4, x5, by omega, by go_num, by go_num, by decide, Hn, put_cell _ _ _ _ _ _ _⟩
        case measure => simp [intOf]
    · have hk : 9 < s.size := by omega
      obtain ⟨c, hc⟩ : ∃ c : Int, ((s[9]'hk).toNat : Int) = c := ⟨_, rfl⟩
      have hcb : 0 ≤ c ∧ c ≤ 255 := by have := (s[9]'hk).toNat_lt; omega
      obtain ⟨hc0, hc1⟩ := hcb
      have Hb := Lib.hid (byteF_at s 9 hk)
      rw [hc] at Hb
      have hix : ∀ W : World, (Instr.index 9 (Value.string { data := #[48, 48, 48, 48, 45, 48, 48, 45, 48, 48, 84, 48, 48, 58, 48, 48, 58, 48, 48] }) (.int .i64 9)).run Tryd.prog W = .ok (.int .u8 48) W := fun _ => by kernel_rfl
      rcases (by omega : c < 48 ∨ 57 < c ∨ (48 ≤ c ∧ c ≤ 57)) with hd | hd | ⟨hd, hd'⟩
      · have Hr := Lib.hid (head_no (s := s) 9 (by decide) (show rightB 48 (byteF s 9) = false by rw [Hb.out]; exact decide_eq_false (by omega)))
        go_wp2_with fail
        go_quiet (fail)
        go_wp2_with fail
        exact bodyPost_ret (v := .tuple #[.agg #[.int .i64 x0, .int .i64 x1, .int .i64 x2, .int .i64 x3, .int .i64 x4, .int .i64 x5], .bool false]) (by simp [results, Tryd.results24, go_sem]) rfl (headPost_no Hr.out _ _ _ _ _ _ (below_6 _ _ _ _ _ _ _ _ _ _))
      · have Hr := Lib.hid (head_no (s := s) 9 (by decide) (show rightB 48 (byteF s 9) = false by rw [Hb.out]; exact decide_eq_false (by omega)))
        have d1 : decide (48 ≤ c) = true := decide_eq_true (by omega)
        have d2 : decide (c ≤ 57) = false := decide_eq_false (by omega)
        go_wp2_with fail
        go_quiet (fail)
        go_wp2_with fail
        exact bodyPost_ret (v := .tuple #[.agg #[.int .i64 x0, .int .i64 x1, .int .i64 x2, .int .i64 x3, .int .i64 x4, .int .i64 x5], .bool false]) (by simp [results, Tryd.results24, go_sem]) rfl (headPost_no Hr.out _ _ _ _ _ _ (below_6 _ _ _ _ _ _ _ _ _ _))
      · have Hn : Hid (part6 s 10 (x0) (x1) (x2 * 10 + (c - 48)) (x3) (x4) (x5)) := Lib.hid ⟨okP_step Hp.out.1 Hb.out (show rightB 48 c = true from decide_eq_true ⟨hd, hd'⟩), field_same (by omega) Hp.out.2.1, field_same (by omega) Hp.out.2.2.1, field_step (by omega) (by omega) hk Hb.out hd hd' Hp.out.2.2.2.1, field_same (by omega) Hp.out.2.2.2.2.1, field_same (by omega) Hp.out.2.2.2.2.2.1, field_same (by omega) Hp.out.2.2.2.2.2.2⟩
        obtain ⟨hx0, hx1⟩ := field_bd (by omega) Hp.out.2.2.2.1
        go_wp2_with fail
        go_quiet (fail)
        go_wp2_with fail
        have r1 : IntKind.u8.wrap (c - 48) = c - 48 := by simp only [IntKind.wrap_u8]; omega
        have r2 : IntKind.i64.wrap (c - 48) = c - 48 := by simp only [IntKind.wrap_i64]; omega
        have r3 : IntKind.i64.wrap (x2 * 10) = x2 * 10 := by simp only [IntKind.wrap_i64]; omega
        have r4 : IntKind.i64.wrap (x2 * 10 + (c - 48)) = x2 * 10 + (c - 48) := by simp only [IntKind.wrap_i64]; omega
        go_region
        clear r1 r2 r3 r4
        go_wp2_with fail
        go_roundw
        case rel => exact ⟨10, _, 10, 2, x0, x1, x2 * 10 + (c - 48), x3, x4, x5, by omega, by go_num, by go_num, by decide, Hn, put_cell _ _ _ _ _ _ _⟩
        case measure => simp [intOf]
    · have hk : 10 < s.size := by omega
      obtain ⟨c, hc⟩ : ∃ c : Int, ((s[10]'hk).toNat : Int) = c := ⟨_, rfl⟩
      have hcb : 0 ≤ c ∧ c ≤ 255 := by have := (s[10]'hk).toNat_lt; omega
      obtain ⟨hc0, hc1⟩ := hcb
      have Hb := Lib.hid (byteF_at s 10 hk)
      rw [hc] at Hb
      have hix : ∀ W : World, (Instr.index 9 (Value.string { data := #[48, 48, 48, 48, 45, 48, 48, 45, 48, 48, 84, 48, 48, 58, 48, 48, 58, 48, 48] }) (.int .i64 10)).run Tryd.prog W = .ok (.int .u8 84) W := fun _ => by kernel_rfl
      rcases (by omega : c = 84 ∨ (c < 48 ∧ c ≠ 84) ∨ (57 < c ∧ c ≠ 84) ∨ (48 ≤ c ∧ c ≤ 57)) with rfl | ⟨hd, hne⟩ | ⟨hd, hne⟩ | ⟨hd, hd'⟩
      · have Hn : Hid (part6 s 11 x0 x1 x2 x3 x4 x5) := Lib.hid ⟨okP_step Hp.out.1 Hb.out (show rightB 84 84 = true from rfl), field_same (by omega) Hp.out.2.1, field_same (by omega) Hp.out.2.2.1, field_same (by omega) Hp.out.2.2.2.1, field_same (by omega) Hp.out.2.2.2.2.1, field_same (by omega) Hp.out.2.2.2.2.2.1, field_same (by omega) Hp.out.2.2.2.2.2.2⟩
        go_wp2_with fail
        go_quiet (fail)
        go_wp2_with fail
        go_roundw
        case rel => exact ⟨11, _, 11, 3, x0, x1, x2, x3, x4, x5, by omega, by go_num, by go_num, by decide, Hn, rfl⟩
        case measure => simp [intOf]
      · have Hr := Lib.hid (head_no (s := s) 10 (by decide) (show rightB 84 (byteF s 10) = false by rw [Hb.out]; exact decide_eq_false (by omega)))
        have bne : (c == 84) = false := beq_eq_false_iff_ne.2 hne
        go_wp2_with fail
        go_quiet (fail)
        go_wp2_with fail
        exact bodyPost_ret (v := .tuple #[.agg #[.int .i64 x0, .int .i64 x1, .int .i64 x2, .int .i64 x3, .int .i64 x4, .int .i64 x5], .bool false]) (by simp [results, Tryd.results24, go_sem]) rfl (headPost_no Hr.out _ _ _ _ _ _ (below_6 _ _ _ _ _ _ _ _ _ _))
      · have Hr := Lib.hid (head_no (s := s) 10 (by decide) (show rightB 84 (byteF s 10) = false by rw [Hb.out]; exact decide_eq_false (by omega)))
        have d1 : decide (48 ≤ c) = true := decide_eq_true (by omega)
        have d2 : decide (c ≤ 57) = false := decide_eq_false (by omega)
        have bne : (c == 84) = false := beq_eq_false_iff_ne.2 hne
        go_wp2_with fail
        go_quiet (fail)
        go_wp2_with fail
        exact bodyPost_ret (v := .tuple #[.agg #[.int .i64 x0, .int .i64 x1, .int .i64 x2, .int .i64 x3, .int .i64 x4, .int .i64 x5], .bool false]) (by simp [results, Tryd.results24, go_sem]) rfl (headPost_no Hr.out _ _ _ _ _ _ (below_6 _ _ _ _ _ _ _ _ _ _))
      · have Hr := Lib.hid (head_no (s := s) 10 (by decide) (show rightB 84 (byteF s 10) = false by rw [Hb.out]; exact decide_eq_false (by omega)))
        go_wp2_with fail
        go_quiet (fail)
        go_wp2_with fail
        exact bodyPost_ret (v := .tuple #[.agg #[.int .i64 x0, .int .i64 x1, .int .i64 x2, .int .i64 x3, .int .i64 x4, .int .i64 x5], .bool false]) (by simp [results, Tryd.results24, go_sem]) rfl (headPost_no Hr.out _ _ _ _ _ _ (below_6 _ _ _ _ _ _ _ _ _ _))
    · have hk : 11 < s.size := by omega
      obtain ⟨c, hc⟩ : ∃ c : Int, ((s[11]'hk).toNat : Int) = c := ⟨_, rfl⟩
      have hcb : 0 ≤ c ∧ c ≤ 255 := by have := (s[11]'hk).toNat_lt; omega
      obtain ⟨hc0, hc1⟩ := hcb
      have Hb := Lib.hid (byteF_at s 11 hk)
      rw [hc] at Hb
      have hix : ∀ W : World, (Instr.index 9 (Value.string { data := #[48, 48, 48, 48, 45, 48, 48, 45, 48, 48, 84, 48, 48, 58, 48, 48, 58, 48, 48] }) (.int .i64 11)).run Tryd.prog W = .ok (.int .u8 48) W := fun _ => by kernel_rfl
      rcases (by omega : c < 48 ∨ 57 < c ∨ (48 ≤ c ∧ c ≤ 57)) with hd | hd | ⟨hd, hd'⟩
      · have Hr := Lib.hid (head_no (s := s) 11 (by decide) (show rightB 48 (byteF s 11) = false by rw [Hb.out]; exact decide_eq_false (by omega)))
        go_wp2_with fail
        go_quiet (fail)
        go_wp2_with fail
        exact bodyPost_ret (v := .tuple #[.agg #[.int .i64 x0, .int .i64 x1, .int .i64 x2, .int .i64 x3, .int .i64 x4, .int .i64 x5], .bool false]) (by simp [results, Tryd.results24, go_sem]) rfl (headPost_no Hr.out _ _ _ _ _ _ (below_6 _ _ _ _ _ _ _ _ _ _))
      · have Hr := Lib.hid (head_no (s := s) 11 (by decide) (show rightB 48 (byteF s 11) = false by rw [Hb.out]; exact decide_eq_false (by omega)))
        have d1 : decide (48 ≤ c) = true := decide_eq_true (by omega)
        have d2 : decide (c ≤ 57) = false := decide_eq_false (by omega)
        go_wp2_with fail
        go_quiet (fail)
        go_wp2_with fail
        exact bodyPost_ret (v := .tuple #[.agg #[.int .i64 x0, .int .i64 x1, .int .i64 x2, .int .i64 x3, .int .i64 x4, .int .i64 x5], .bool false]) (by simp [results, Tryd.results24, go_sem]) rfl (headPost_no Hr.out _ _ _ _ _ _ (below_6 _ _ _ _ _ _ _ _ _ _))
      · have Hn : Hid (part6 s 12 (x0) (x1) (x2) (x3 * 10 + (c - 48)) (x4) (x5)) := Lib.hid ⟨okP_step Hp.out.1 Hb.out (show rightB 48 c = true from decide_eq_true ⟨hd, hd'⟩), field_same (by omega) Hp.out.2.1, field_same (by omega) Hp.out.2.2.1, field_same (by omega) Hp.out.2.2.2.1, field_step (by omega) (by omega) hk Hb.out hd hd' Hp.out.2.2.2.2.1, field_same (by omega) Hp.out.2.2.2.2.2.1, field_same (by omega) Hp.out.2.2.2.2.2.2⟩
        obtain ⟨hx0, hx1⟩ := field_bd (by omega) Hp.out.2.2.2.2.1
        go_wp2_with fail
        go_quiet (fail)
        go_wp2_with fail
        have r1 : IntKind.u8.wrap (c - 48) = c - 48 := by simp only [IntKind.wrap_u8]; omega
        have r2 : IntKind.i64.wrap (c - 48) = c - 48 := by simp only [IntKind.wrap_i64]; omega
        have r3 : IntKind.i64.wrap (x3 * 10) = x3 * 10 := by simp only [IntKind.wrap_i64]; omega
        have r4 : IntKind.i64.wrap (x3 * 10 + (c - 48)) = x3 * 10 + (c - 48) := by simp only [IntKind.wrap_i64]; omega
        go_region
        clear r1 r2 r3 r4
        go_wp2_with fail
        go_roundw
        case rel => exact ⟨12, _, 12, 3, x0, x1, x2, x3 * 10 + (c - 48), x4, x5, by omega, by go_num, by go_num, by decide, Hn, put_cell _ _ _ _ _ _ _⟩
        case measure => simp [intOf]
    · have hk : 12 < s.size := by omega
      obtain ⟨c, hc⟩ : ∃ c : Int, ((s[12]'hk).toNat : Int) = c := ⟨_, rfl⟩
      have hcb : 0 ≤ c ∧ c ≤ 255 := by have := (s[12]'hk).toNat_lt; omega
      obtain ⟨hc0, hc1⟩ := hcb
      have Hb := Lib.hid (byteF_at s 12 hk)
      rw [hc] at Hb
      have hix : ∀ W : World, (Instr.index 9 (Value.string { data := #[48, 48, 48, 48, 45, 48, 48, 45, 48, 48, 84, 48, 48, 58, 48, 48, 58, 48, 48] }) (.int .i64 12)).run Tryd.prog W = .ok (.int .u8 48) W := fun _ => by kernel_rfl
      rcases (by omega : c < 48 ∨ 57 < c ∨ (48 ≤ c ∧ c ≤ 57)) with hd | hd | ⟨hd, hd'⟩
      · have Hr := Lib.hid (head_no (s := s) 12 (by decide) (show rightB 48 (byteF s 12) = false by rw [Hb.out]; exact decide_eq_false (by omega)))
        go_wp2_with fail
        go_quiet (fail)
        go_wp2_with fail
        exact bodyPost_ret (v := .tuple #[.agg #[.int .i64 x0, .int .i64 x1, .int .i64 x2, .int .i64 x3, .int .i64 x4, .int .i64 x5], .bool false]) (by simp [results, Tryd.results24, go_sem]) rfl (headPost_no Hr.out _ _ _ _ _ _ (below_6 _ _ _ _ _ _ _ _ _ _))
      · have Hr := Lib.hid (head_no (s := s) 12 (by decide) (show rightB 48 (byteF s 12) = false by rw [Hb.out]; exact decide_eq_false (by omega)))
        have d1 : decide (48 ≤ c) = true := decide_eq_true (by omega)
        have d2 : decide (c ≤ 57) = false := decide_eq_false (by omega)
        go_wp2_with fail
        go_quiet (fail)
        go_wp2_with fail
        exact bodyPost_ret (v := .tuple #[.agg #[.int .i64 x0, .int .i64 x1, .int .i64 x2, .int .i64 x3, .int .i64 x4, .int .i64 x5], .bool false]) (by simp [results, Tryd.results24, go_sem]) rfl (headPost_no Hr.out _ _ _ _ _ _ (below_6 _ _ _ _ _ _ _ _ _ _))
      · have Hn : Hid (part6 s 13 (x0) (x1) (x2) (x3 * 10 + (c - 48)) (x4) (x5)) := Lib.hid ⟨okP_step Hp.out.1 Hb.out (show rightB 48 c = true from decide_eq_true ⟨hd, hd'⟩), field_same (by omega) Hp.out.2.1, field_same (by omega) Hp.out.2.2.1, field_same (by omega) Hp.out.2.2.2.1, field_step (by omega) (by omega) hk Hb.out hd hd' Hp.out.2.2.2.2.1, field_same (by omega) Hp.out.2.2.2.2.2.1, field_same (by omega) Hp.out.2.2.2.2.2.2⟩
        obtain ⟨hx0, hx1⟩ := field_bd (by omega) Hp.out.2.2.2.2.1
        go_wp2_with fail
        go_quiet (fail)
        go_wp2_with fail
        have r1 : IntKind.u8.wrap (c - 48) = c - 48 := by simp only [IntKind.wrap_u8]; omega
        have r2 : IntKind.i64.wrap (c - 48) = c - 48 := by simp only [IntKind.wrap_i64]; omega
        have r3 : IntKind.i64.wrap (x3 * 10) = x3 * 10 := by simp only [IntKind.wrap_i64]; omega
        have r4 : IntKind.i64.wrap (x3 * 10 + (c - 48)) = x3 * 10 + (c - 48) := by simp only [IntKind.wrap_i64]; omega
        go_region
        clear r1 r2 r3 r4
        go_wp2_with fail
        go_roundw
        case rel => exact ⟨13, _, 13, 3, x0, x1, x2, x3 * 10 + (c - 48), x4, x5, by omega, by go_num, by go_num, by decide, Hn, put_cell _ _ _ _ _ _ _⟩
        case measure => simp [intOf]
    · have hk : 13 < s.size := by omega
      obtain ⟨c, hc⟩ : ∃ c : Int, ((s[13]'hk).toNat : Int) = c := ⟨_, rfl⟩
      have hcb : 0 ≤ c ∧ c ≤ 255 := by have := (s[13]'hk).toNat_lt; omega
      obtain ⟨hc0, hc1⟩ := hcb
      have Hb := Lib.hid (byteF_at s 13 hk)
      rw [hc] at Hb
      have hix : ∀ W : World, (Instr.index 9 (Value.string { data := #[48, 48, 48, 48, 45, 48, 48, 45, 48, 48, 84, 48, 48, 58, 48, 48, 58, 48, 48] }) (.int .i64 13)).run Tryd.prog W = .ok (.int .u8 58) W := fun _ => by kernel_rfl
      rcases (by omega : c = 58 ∨ (c < 48 ∧ c ≠ 58) ∨ (57 < c ∧ c ≠ 58) ∨ (48 ≤ c ∧ c ≤ 57)) with rfl | ⟨hd, hne⟩ | ⟨hd, hne⟩ | ⟨hd, hd'⟩
      · have Hn : Hid (part6 s 14 x0 x1 x2 x3 x4 x5) := Lib.hid ⟨okP_step Hp.out.1 Hb.out (show rightB 58 58 = true from rfl), field_same (by omega) Hp.out.2.1, field_same (by omega) Hp.out.2.2.1, field_same (by omega) Hp.out.2.2.2.1, field_same (by omega) Hp.out.2.2.2.2.1, field_same (by omega) Hp.out.2.2.2.2.2.1, field_same (by omega) Hp.out.2.2.2.2.2.2⟩
        go_wp2_with fail
        go_quiet (fail)
        go_wp2_with fail
        go_roundw
        case rel => exact ⟨14, _, 14, 4, x0, x1, x2, x3, x4, x5, by omega, by go_num, by go_num, by decide, Hn, rfl⟩
        case measure => simp [intOf]
      · have Hr := Lib.hid (head_no (s := s) 13 (by decide) (show rightB 58 (byteF s 13) = false by rw [Hb.out]; exact decide_eq_false (by omega)))
        have bne : (c == 58) = false := beq_eq_false_iff_ne.2 hne
        go_wp2_with fail
        go_quiet (fail)
        go_wp2_with fail
        exact bodyPost_ret (v := .tuple #[.agg #[.int .i64 x0, .int .i64 x1, .int .i64 x2, .int .i64 x3, .int .i64 x4, .int .i64 x5], .bool false]) (by simp [results, Tryd.results24, go_sem]) rfl (headPost_no Hr.out _ _ _ _ _ _ (below_6 _ _ _ _ _ _ _ _ _ _))
      · have Hr := Lib.hid (head_no (s := s) 13 (by decide) (show rightB 58 (byteF s 13) = false by rw [Hb.out]; exact decide_eq_false (by omega)))
        have d1 : decide (48 ≤ c) = true := decide_eq_true (by omega)
        have d2 : decide (c ≤ 57) = false := decide_eq_false (by omega)
        have bne : (c == 58) = false := beq_eq_false_iff_ne.2 hne
        go_wp2_with fail
        go_quiet (fail)
        go_wp2_with fail
        exact bodyPost_ret (v := .tuple #[.agg #[.int .i64 x0, .int .i64 x1, .int .i64 x2, .int .i64 x3, .int .i64 x4, .int .i64 x5], .bool false]) (by simp [results, Tryd.results24, go_sem]) rfl (headPost_no Hr.out _ _ _ _ _ _ (below_6 _ _ _ _ _ _ _ _ _ _))
      · have Hr := Lib.hid (head_no (s := s) 13 (by decide) (show rightB 58 (byteF s 13) = false by rw [Hb.out]; exact decide_eq_false (by omega)))
        go_wp2_with fail
        go_quiet (fail)
        go_wp2_with fail
        exact bodyPost_ret (v := .tuple #[.agg #[.int .i64 x0, .int .i64 x1, .int .i64 x2, .int .i64 x3, .int .i64 x4, .int .i64 x5], .bool false]) (by simp [results, Tryd.results24, go_sem]) rfl (headPost_no Hr.out _ _ _ _ _ _ (below_6 _ _ _ _ _ _ _ _ _ _))
    · have hk : 14 < s.size := by omega
      obtain ⟨c, hc⟩ : ∃ c : Int, ((s[14]'hk).toNat : Int) = c := ⟨_, rfl⟩
      have hcb : 0 ≤ c ∧ c ≤ 255 := by have := (s[14]'hk).toNat_lt; omega
      obtain ⟨hc0, hc1⟩ := hcb
      have Hb := Lib.hid (byteF_at s 14 hk)
      rw [hc] at Hb
      have hix : ∀ W : World, (Instr.index 9 (Value.string { data := #[48, 48, 48, 48, 45, 48, 48, 45, 48, 48, 84, 48, 48, 58, 48, 48, 58, 48, 48] }) (.int .i64 14)).run Tryd.prog W = .ok (.int .u8 48) W := fun _ => by kernel_rfl
      rcases (by omega : c < 48 ∨ 57 < c ∨ (48 ≤ c ∧ c ≤ 57)) with hd | hd | ⟨hd, hd'⟩
      · have Hr := Lib.hid (head_no (s := s) 14 (by decide) (show rightB 48 (byteF s 14) = false by rw [Hb.out]; exact decide_eq_false (by omega)))
        go_wp2_with fail
        go_quiet (fail)
        go_wp2_with fail
        exact bodyPost_ret (v := .tuple #[.agg #[.int .i64 x0, .int .i64 x1, .int .i64 x2, .int .i64 x3, .int .i64 x4, .int .i64 x5], .bool false]) (by simp [results, Tryd.results24, go_sem]) rfl (headPost_no Hr.out _ _ _ _ _ _ (below_6 _ _ _ _ _ _ _ _ _ _))
      · have Hr := Lib.hid (head_no (s := s) 14 (by decide) (show rightB 48 (byteF s 14) = false by rw [Hb.out]; exact decide_eq_false (by omega)))
        have d1 : decide (48 ≤ c) = true := decide_eq_true (by omega)
        have d2 : decide (c ≤ 57) = false := decide_eq_false (by omega)
        go_wp2_with fail
        go_quiet (fail)
        go_wp2_with fail
        exact bodyPost_ret (v := .tuple #[.agg #[.int .i64 x0, .int .i64 x1, .int .i64 x2, .int .i64 x3, .int .i64 x4, .int .i64 x5], .bool false]) (by simp [results, Tryd.results24, go_sem]) rfl (headPost_no Hr.out _ _ _ _ _ _ (below_6 _ _ _ _ _ _ _ _ _ _))
      · have Hn : Hid (part6 s 15 (x0) (x1) (x2) (x3) (x4 * 10 + (c - 48)) (x5)) := Lib.hid ⟨okP_step Hp.out.1 Hb.out (show rightB 48 c = true from decide_eq_true ⟨hd, hd'⟩), field_same (by omega) Hp.out.2.1, field_same (by omega) Hp.out.2.2.1, field_same (by omega) Hp.out.2.2.2.1, field_same (by omega) Hp.out.2.2.2.2.1, field_step (by omega) (by omega) hk Hb.out hd hd' Hp.out.2.2.2.2.2.1, field_same (by omega) Hp.out.2.2.2.2.2.2⟩
        obtain ⟨hx0, hx1⟩ := field_bd (by omega) Hp.out.2.2.2.2.2.1
        go_wp2_with fail
        go_quiet (fail)
        go_wp2_with fail
        have r1 : IntKind.u8.wrap (c - 48) = c - 48 := by simp only [IntKind.wrap_u8]; omega
        have r2 : IntKind.i64.wrap (c - 48) = c - 48 := by simp only [IntKind.wrap_i64]; omega
        have r3 : IntKind.i64.wrap (x4 * 10) = x4 * 10 := by simp only [IntKind.wrap_i64]; omega
        have r4 : IntKind.i64.wrap (x4 * 10 + (c - 48)) = x4 * 10 + (c - 48) := by simp only [IntKind.wrap_i64]; omega
        go_region
        clear r1 r2 r3 r4
        go_wp2_with fail
        go_roundw
        case rel => exact ⟨15, _, 15, 4, x0, x1, x2, x3, x4 * 10 + (c - 48), x5, by omega, by go_num, by go_num, by decide, Hn, put_cell _ _ _ _ _ _ _⟩
        case measure => simp [intOf]
    · have hk : 15 < s.size := by omega
      obtain ⟨c, hc⟩ : ∃ c : Int, ((s[15]'hk).toNat : Int) = c := ⟨_, rfl⟩
      have hcb : 0 ≤ c ∧ c ≤ 255 := by have := (s[15]'hk).toNat_lt; omega
      obtain ⟨hc0, hc1⟩ := hcb
      have Hb := Lib.hid (byteF_at s 15 hk)
      rw [hc] at Hb
      have hix : ∀ W : World, (Instr.index 9 (Value.string { data := #[48, 48, 48, 48, 45, 48, 48, 45, 48, 48, 84, 48, 48, 58, 48, 48, 58, 48, 48] }) (.int .i64 15)).run Tryd.prog W = .ok (.int .u8 48) W := fun _ => by kernel_rfl
      rcases (by omega : c < 48 ∨ 57 < c ∨ (48 ≤ c ∧ c ≤ 57)) with hd | hd | ⟨hd, hd'⟩
      · have Hr := Lib.hid (head_no (s := s) 15 (by decide) (show rightB 48 (byteF s 15) = false by rw [Hb.out]; exact decide_eq_false (by omega)))
        go_wp2_with fail
        go_quiet (fail)
        go_wp2_with fail
        exact bodyPost_ret (v := .tuple #[.agg #[.int .i64 x0, .int .i64 x1, .int .i64 x2, .int .i64 x3, .int .i64 x4, .int .i64 x5], .bool false]) (by simp [results, Tryd.results24, go_sem]) rfl (headPost_no Hr.out _ _ _ _ _ _ (below_6 _ _ _ _ _ _ _ _ _ _))
      · have Hr := Lib.hid (head_no (s := s) 15 (by decide) (show rightB 48 (byteF s 15) = false by rw [Hb.out]; exact decide_eq_false (by omega)))
        have d1 : decide (48 ≤ c) = true := decide_eq_true (by omega)
        have d2 : decide (c ≤ 57) = false := decide_eq_false (by omega)
        go_wp2_with fail
        go_quiet (fail)
        go_wp2_with fail
        exact bodyPost_ret (v := .tuple #[.agg #[.int .i64 x0, .int .i64 x1, .int .i64 x2, .int .i64 x3, .int .i64 x4, .int .i64 x5], .bool false]) (by simp [results, Tryd.results24, go_sem]) rfl (headPost_no Hr.out _ _ _ _ _ _ (below_6 _ _ _ _ _ _ _ _ _ _))
      · have Hn : Hid (part6 s 16 (x0) (x1) (x2) (x3) (x4 * 10 + (c - 48)) (x5)) := Lib.hid ⟨okP_step Hp.out.1 Hb.out (show rightB 48 c = true from decide_eq_true ⟨hd, hd'⟩), field_same (by omega) Hp.out.2.1, field_same (by omega) Hp.out.2.2.1, field_same (by omega) Hp.out.2.2.2.1, field_same (by omega) Hp.out.2.2.2.2.1, field_step (by omega) (by omega) hk Hb.out hd hd' Hp.out.2.2.2.2.2.1, field_same (by omega) Hp.out.2.2.2.2.2.2⟩
        obtain ⟨hx0, hx1⟩ := field_bd (by omega) Hp.out.2.2.2.2.2.1
        go_wp2_with fail
        go_quiet (fail)
        go_wp2_with fail
        have r1 : IntKind.u8.wrap (c - 48) = c - 48 := by simp only [IntKind.wrap_u8]; omega
        have r2 : IntKind.i64.wrap (c - 48) = c - 48 := by simp only [IntKind.wrap_i64]; omega
        have r3 : IntKind.i64.wrap (x4 * 10) = x4 * 10 := by simp only [IntKind.wrap_i64]; omega
        have r4 : IntKind.i64.wrap (x4 * 10 + (c - 48)) = x4 * 10 + (c - 48) := by simp only [IntKind.wrap_i64]; omega
        go_region
        clear r1 r2 r3 r4
        go_wp2_with fail
        go_roundw
        case rel => exact ⟨16, _, 16, 4, x0, x1, x2, x3, x4 * 10 + (c - 48), x5, by omega, by go_num, by go_num, by decide, Hn, put_cell _ _ _ _ _ _ _⟩
        case measure => simp [intOf]
    · have hk : 16 < s.size := by omega
      obtain ⟨c, hc⟩ : ∃ c : Int, ((s[16]'hk).toNat : Int) = c := ⟨_, rfl⟩
      have hcb : 0 ≤ c ∧ c ≤ 255 := by have := (s[16]'hk).toNat_lt; omega
      obtain ⟨hc0, hc1⟩ := hcb
      have Hb := Lib.hid (byteF_at s 16 hk)
      rw [hc] at Hb
      have hix : ∀ W : World, (Instr.index 9 (Value.string { data := #[48, 48, 48, 48, 45, 48, 48, 45, 48, 48, 84, 48, 48, 58, 48, 48, 58, 48, 48] }) (.int .i64 16)).run Tryd.prog W = .ok (.int .u8 58) W := fun _ => by kernel_rfl
      rcases (by omega : c = 58 ∨ (c < 48 ∧ c ≠ 58) ∨ (57 < c ∧ c ≠ 58) ∨ (48 ≤ c ∧ c ≤ 57)) with rfl | ⟨hd, hne⟩ | ⟨hd, hne⟩ | ⟨hd, hd'⟩
      · have Hn : Hid (part6 s 17 x0 x1 x2 x3 x4 x5) := Lib.hid ⟨okP_step Hp.out.1 Hb.out (show rightB 58 58 = true from rfl), field_same (by omega) Hp.out.2.1, field_same (by omega) Hp.out.2.2.1, field_same (by omega) Hp.out.2.2.2.1, field_same (by omega) Hp.out.2.2.2.2.1, field_same (by omega) Hp.out.2.2.2.2.2.1, field_same (by omega) Hp.out.2.2.2.2.2.2⟩
        go_wp2_with fail
        go_quiet (fail)
        go_wp2_with fail
        go_roundw
        case rel => exact ⟨17, _, 17, 5, x0, x1, x2, x3, x4, x5, by omega, by go_num, by go_num, by decide, Hn, rfl⟩
        case measure => simp [intOf]
      · have Hr := Lib.hid (head_no (s := s) 16 (by decide) (show rightB 58 (byteF s 16) = false by rw [Hb.out]; exact decide_eq_false (by omega)))
        have bne : (c == 58) = false := beq_eq_false_iff_ne.2 hne
        go_wp2_with fail
        go_quiet (fail)
        go_wp2_with fail
        exact bodyPost_ret (v := .tuple #[.agg #[.int .i64 x0, .int .i64 x1, .int .i64 x2, .int .i64 x3, .int .i64 x4, .int .i64 x5], .bool false]) (by simp [results, Tryd.results24, go_sem]) rfl (headPost_no Hr.out _ _ _ _ _ _ (below_6 _ _ _ _ _ _ _ _ _ _))
      · have Hr := Lib.hid (head_no (s := s) 16 (by decide) (show rightB 58 (byteF s 16) = false by rw [Hb.out]; exact decide_eq_false (by omega)))
        have d1 : decide (48 ≤ c) = true := decide_eq_true (by omega)
        have d2 : decide (c ≤ 57) = false := decide_eq_false (by omega)
        have bne : (c == 58) = false := beq_eq_false_iff_ne.2 hne
        go_wp2_with fail
        go_quiet (fail)
        go_wp2_with fail
        exact bodyPost_ret (v := .tuple #[.agg #[.int .i64 x0, .int .i64 x1, .int .i64 x2, .int .i64 x3, .int .i64 x4, .int .i64 x5], .bool false]) (by simp [results, Tryd.results24, go_sem]) rfl (headPost_no Hr.out _ _ _ _ _ _ (below_6 _ _ _ _ _ _ _ _ _ _))
      · have Hr := Lib.hid (head_no (s := s) 16 (by decide) (show rightB 58 (byteF s 16) = false by rw [Hb.out]; exact decide_eq_false (by omega)))
        go_wp2_with fail
        go_quiet (fail)
        go_wp2_with fail
        exact bodyPost_ret (v := .tuple #[.agg #[.int .i64 x0, .int .i64 x1, .int .i64 x2, .int .i64 x3, .int .i64 x4, .int .i64 x5], .bool false]) (by simp [results, Tryd.results24, go_sem]) rfl (headPost_no Hr.out _ _ _ _ _ _ (below_6 _ _ _ _ _ _ _ _ _ _))
    · have hk : 17 < s.size := by omega
      obtain ⟨c, hc⟩ : ∃ c : Int, ((s[17]'hk).toNat : Int) = c := ⟨_, rfl⟩
      have hcb : 0 ≤ c ∧ c ≤ 255 := by have := (s[17]'hk).toNat_lt; omega
      obtain ⟨hc0, hc1⟩ := hcb
      have Hb := Lib.hid (byteF_at s 17 hk)
      rw [hc] at Hb
      have hix : ∀ W : World, (Instr.index 9 (Value.string { data := #[48, 48, 48, 48, 45, 48, 48, 45, 48, 48, 84, 48, 48, 58, 48, 48, 58, 48, 48] }) (.int .i64 17)).run Tryd.prog W = .ok (.int .u8 48) W := fun _ => by kernel_rfl
      rcases (by omega : c < 48 ∨ 57 < c ∨ (48 ≤ c ∧ c ≤ 57)) with hd | hd | ⟨hd, hd'⟩
      · have Hr := Lib.hid (head_no (s := s) 17 (by decide) (show rightB 48 (byteF s 17) = false by rw [Hb.out]; exact decide_eq_false (by omega)))
        go_wp2_with fail
        go_quiet (fail)
        go_wp2_with fail
        exact bodyPost_ret (v := .tuple #[.agg #[.int .i64 x0, .int .i64 x1, .int .i64 x2, .int .i64 x3, .int .i64 x4, .int .i64 x5], .bool false]) (by simp [results, Tryd.results24, go_sem]) rfl (headPost_no Hr.out _ _ _ _ _ _ (below_6 _ _ _ _ _ _ _ _ _ _))
      · have Hr := Lib.hid (head_no (s := s) 17 (by decide) (show rightB 48 (byteF s 17) = false by rw [Hb.out]; exact decide_eq_false (by omega)))
        have d1 : decide (48 ≤ c) = true := decide_eq_true (by omega)
        have d2 : decide (c ≤ 57) = false := decide_eq_false (by omega)
        go_wp2_with fail
        go_quiet (fail)
        go_wp2_with fail
        exact bodyPost_ret (v := .tuple #[.agg #[.int .i64 x0, .int .i64 x1, .int .i64 x2, .int .i64 x3, .int .i64 x4, .int .i64 x5], .bool false]) (by simp [results, Tryd.results24, go_sem]) rfl (headPost_no Hr.out _ _ _ _ _ _ (below_6 _ _ _ _ _ _ _ _ _ _))
      · have Hn : Hid (part6 s 18 (x0) (x1) (x2) (x3) (x4) (x5 * 10 + (c - 48))) := Lib.hid ⟨okP_step Hp.out.1 Hb.out (show rightB 48 c = true from decide_eq_true ⟨hd, hd'⟩), field_same (by omega) Hp.out.2.1, field_same (by omega) Hp.out.2.2.1, field_same (by omega) Hp.out.2.2.2.1, field_same (by omega) Hp.out.2.2.2.2.1, field_same (by omega) Hp.out.2.2.2.2.2.1, field_step (by omega) (by omega) hk Hb.out hd hd' Hp.out.2.2.2.2.2.2⟩
        obtain ⟨hx0, hx1⟩ := field_bd (by omega) Hp.out.2.2.2.2.2.2
        go_wp2_with fail
        go_quiet (fail)
        go_wp2_with fail
        have r1 : IntKind.u8.wrap (c - 48) = c - 48 := by simp only [IntKind.wrap_u8]; omega
        have r2 : IntKind.i64.wrap (c - 48) = c - 48 := by simp only [IntKind.wrap_i64]; omega
        have r3 : IntKind.i64.wrap (x5 * 10) = x5 * 10 := by simp only [IntKind.wrap_i64]; omega
        have r4 : IntKind.i64.wrap (x5 * 10 + (c - 48)) = x5 * 10 + (c - 48) := by simp only [IntKind.wrap_i64]; omega
        go_region
        clear r1 r2 r3 r4
        go_wp2_with fail
        go_roundw
        case rel => exact ⟨18, _, 18, 5, x0, x1, x2, x3, x4, x5 * 10 + (c - 48), by omega, by go_num, by go_num, by decide, Hn, put_cell _ _ _ _ _ _ _⟩
        case measure => simp [intOf]
    · have hk : 18 < s.size := by omega
      obtain ⟨c, hc⟩ : ∃ c : Int, ((s[18]'hk).toNat : Int) = c := ⟨_, rfl⟩
      have hcb : 0 ≤ c ∧ c ≤ 255 := by have := (s[18]'hk).toNat_lt; omega
      obtain ⟨hc0, hc1⟩ := hcb
      have Hb := Lib.hid (byteF_at s 18 hk)
      rw [hc] at Hb
      have hix : ∀ W : World, (Instr.index 9 (Value.string { data := #[48, 48, 48, 48, 45, 48, 48, 45, 48, 48, 84, 48, 48, 58, 48, 48, 58, 48, 48] }) (.int .i64 18)).run Tryd.prog W = .ok (.int .u8 48) W := fun _ => by kernel_rfl
      rcases (by omega : c < 48 ∨ 57 < c ∨ (48 ≤ c ∧ c ≤ 57)) with hd | hd | ⟨hd, hd'⟩
      · have Hr := Lib.hid (head_no (s := s) 18 (by decide) (show rightB 48 (byteF s 18) = false by rw [Hb.out]; exact decide_eq_false (by omega)))
        go_wp2_with fail
        go_quiet (fail)
        go_wp2_with fail
        exact bodyPost_ret (v := .tuple #[.agg #[.int .i64 x0, .int .i64 x1, .int .i64 x2, .int .i64 x3, .int .i64 x4, .int .i64 x5], .bool false]) (by simp [results, Tryd.results24, go_sem]) rfl (headPost_no Hr.out _ _ _ _ _ _ (below_6 _ _ _ _ _ _ _ _ _ _))
      · have Hr := Lib.hid (head_no (s := s) 18 (by decide) (show rightB 48 (byteF s 18) = false by rw [Hb.out]; exact decide_eq_false (by omega)))
        have d1 : decide (48 ≤ c) = true := decide_eq_true (by omega)
        have d2 : decide (c ≤ 57) = false := decide_eq_false (by omega)
        go_wp2_with fail
        go_quiet (fail)
        go_wp2_with fail
        exact bodyPost_ret (v := .tuple #[.agg #[.int .i64 x0, .int .i64 x1, .int .i64 x2, .int .i64 x3, .int .i64 x4, .int .i64 x5], .bool false]) (by simp [results, Tryd.results24, go_sem]) rfl (headPost_no Hr.out _ _ _ _ _ _ (below_6 _ _ _ _ _ _ _ _ _ _))
      · have Hn : Hid (part6 s 19 (x0) (x1) (x2) (x3) (x4) (x5 * 10 + (c - 48))) := Lib.hid ⟨okP_step Hp.out.1 Hb.out (show rightB 48 c = true from decide_eq_true ⟨hd, hd'⟩), field_same (by omega) Hp.out.2.1, field_same (by omega) Hp.out.2.2.1, field_same (by omega) Hp.out.2.2.2.1, field_same (by omega) Hp.out.2.2.2.2.1, field_same (by omega) Hp.out.2.2.2.2.2.1, field_step (by omega) (by omega) hk Hb.out hd hd' Hp.out.2.2.2.2.2.2⟩
        obtain ⟨hx0, hx1⟩ := field_bd (by omega) Hp.out.2.2.2.2.2.2
        go_wp2_with fail
        go_quiet (fail)
        go_wp2_with fail
        have r1 : IntKind.u8.wrap (c - 48) = c - 48 := by simp only [IntKind.wrap_u8]; omega
        have r2 : IntKind.i64.wrap (c - 48) = c - 48 := by simp only [IntKind.wrap_i64]; omega
        have r3 : IntKind.i64.wrap (x5 * 10) = x5 * 10 := by simp only [IntKind.wrap_i64]; omega
        have r4 : IntKind.i64.wrap (x5 * 10 + (c - 48)) = x5 * 10 + (c - 48) := by simp only [IntKind.wrap_i64]; omega
        go_region
        clear r1 r2 r3 r4
        go_wp2_with fail
        go_roundw
        case rel => exact ⟨19, _, 19, 5, x0, x1, x2, x3, x4, x5 * 10 + (c - 48), by omega, by go_num, by go_num, by decide, Hn, put_cell _ _ _ _ _ _ _⟩
        case measure => simp [intOf]
    · go_wp2_with fail
      exact bodyPost_ret (v := .tuple #[.agg #[.int .i64 x0, .int .i64 x1, .int .i64 x2, .int .i64 x3, .int .i64 x4, .int .i64 x5], .bool true]) (by simp [results, Tryd.results24, go_sem]) rfl (headPost_yes hz _ _ _ _ _ _ Hp.out (below_6 _ _ _ _ _ _ _ _ _ _))
end Go.Proofs.YtijpbfafkdpolaaDoor
