import Derived.Test.YtijpbfafkdpolaaDoorS7
import Derived.Test.YtijpbfafkdpolaaDoorS8
import Derived.Test.YtijpbfafkdpolaaDoorS6
import Derived.Outline
namespace Go.Proofs.YtijpbfafkdpolaaDoor
open Go.RowKit Go.Shelf

theorem below_6' (w : World) (o1 o2 : Obj) (v0 v1 v2 v3 v4 v5 : Value) : Below w.heap.size w ((((((((w.alloc o1).alloc o2).setCell ⟨w.heap.size, 0, none⟩ v0).setCell ⟨w.heap.size, 1, none⟩ v1).setCell ⟨w.heap.size, 2, none⟩ v2).setCell ⟨w.heap.size, 3, none⟩ v3).setCell ⟨w.heap.size, 4, none⟩ v4).setCell ⟨w.heap.size, 5, none⟩ v5) :=
  below_6 w o1 o2 0 v0 v1 v2 v3 v4 v5
set_option maxHeartbeats 2000000 in
theorem head_any (s : ByteArray) (hs : s.size ≤ 140737488355328) (w : World) : Calls Tryd.prog 24 #[.string s] w (HeadPost s w) := by
  by_cases hz : 19 ≤ s.size
  · exact head_long s hs hz w
  · have Hr : Hid (headOK s = false) := Lib.hid (by unfold headOK; rw [decide_eq_false hz]; rfl)
    go_enter Tryd.func24, Tryd.ntmps24
    go_wp2_with fail
    exact bodyPost_ret (v := .tuple #[.agg #[.int .i64 0, .int .i64 0, .int .i64 0, .int .i64 0, .int .i64 0, .int .i64 0], .bool false]) (by simp [results, Tryd.results24, go_sem]) rfl (headPost_no Hr.out _ _ _ _ _ _ (below_2 w _ _ 0))
theorem secOK_nohead {s : ByteArray} (h : headOK s = false) : secOK s = false := by
  unfold headOK at h
  by_cases hz : 19 ≤ s.size
  · rw [decide_eq_true hz, Bool.true_and] at h
    exact sec_no_form h
  · unfold secOK; rw [decide_eq_false (by omega)]; rfl
theorem head_yes {s : ByteArray} (h : headOK s = true) : 19 ≤ s.size ∧ okP s 19 = true := by
  unfold headOK at h
  simpa using h
theorem bcell {W w1 : World} (hb : Below W.heap.size W w1) : (∀ b o, b < W.heap.size → w1.cell? ⟨b, o, none⟩ = W.cell? ⟨b, o, none⟩) ∧ (∀ b o, b < W.heap.size → w1.frozen? ⟨b, o, none⟩ = W.frozen? ⟨b, o, none⟩) :=
  ⟨fun b o h => hb.cell (p := ⟨b, o, none⟩) h, fun b o h => hb.frozen (p := ⟨b, o, none⟩) h⟩
def SecPost (s : ByteArray) (w : World) (e : Ending) (w' : World) : Prop := e = .returned (.tuple #[.int .i64 (secV s), .bool (secOK s)]) ∧ Below w.heap.size w w'
theorem secPost_no {s : ByteArray} {w w' : World} (h : secOK s = false) (hb : Below w.heap.size w w') : SecPost s w (.returned (.tuple #[.int .i64 0, .bool false])) w' := by
  obtain ⟨e1, e2⟩ := sec_not h
  exact ⟨ret_day e1 e2, hb⟩

set_option maxHeartbeats 4000000 in
theorem seconds_any (s : ByteArray) (hs : s.size ≤ 140737488355328) (w : World) : Calls Tryd.prog 10 #[.string s] w (SecPost s w) := by
  go_enter Tryd.func10, Tryd.ntmps10
  go_wp2_with fail
  refine (head_any s hs _).mono ?_
  rintro e w1 ⟨x0, x1, x2, x3, x4, x5, rfl, hx, hb1⟩
  have Hx := Lib.hid hx
  have Hb1 := Lib.hid hb1
  have z1 := hb1.size
  clear hx hb1
  cases hh : headOK s with
  | false =>
    have Hr := Lib.hid (secOK_nohead hh)
    clear Hx
    go_wp2_with fail
    go_ret2
    exact secPost_no Hr.out (Hb1.out.alloc z1 _)
  | true =>
    obtain ⟨hz, hok⟩ := head_yes hh
    obtain ⟨rfl, rfl, rfl, rfl, rfl, rfl⟩ := Hx.out hh
    have HP := Lib.hid (sec_program hz hok)
    have HN := Lib.hid (form_nums hz hok)
    have HV : Hid (secOK s = true → secV s = dayV (numF s 0 4) (numF s 5 2) (numF s 8 2) * 86400 + numF s 11 2 * 3600 + numF s 14 2 * 60 + numF s 17 2) := Lib.hid fun h => by unfold secV; rw [if_pos h]; rfl
    have HD := Lib.hid (days_any (numF s 0 4) (numF s 5 2) (numF s 8 2))
    have Hdb := dayV_bd (numF s 0 4) (numF s 5 2) (numF s 8 2)
    unfold hF miF seF at HP
    obtain ⟨_, _, _, n3, n4, n5⟩ := HN.out
    clear Hx hok HN hh
    generalize numF s 0 4 = x0 at *
    generalize numF s 5 2 = x1 at *
    generalize numF s 8 2 = x2 at *
    generalize numF s 11 2 = x3 at *
    generalize numF s 14 2 = x4 at *
    generalize numF s 17 2 = x5 at *
    generalize dayV x0 x1 x2 = v at *
    obtain ⟨v0, v1⟩ := Hdb
    obtain ⟨p3, q3⟩ := n3
    obtain ⟨p4, q4⟩ := n4
    obtain ⟨p5, q5⟩ := n5
    go_wp2_with fail
    have c0 : (w1.alloc (.cells #[.int .i64 x0, .int .i64 x1, .int .i64 x2, .int .i64 x3, .int .i64 x4, .int .i64 x5] 43)).cell? ⟨w1.heap.size, 0, none⟩ = some (.int .i64 x0) := by simp [World.cell?_alloc_new]
    have c1 : (w1.alloc (.cells #[.int .i64 x0, .int .i64 x1, .int .i64 x2, .int .i64 x3, .int .i64 x4, .int .i64 x5] 43)).cell? ⟨w1.heap.size, 1, none⟩ = some (.int .i64 x1) := by simp [World.cell?_alloc_new]
    have c2 : (w1.alloc (.cells #[.int .i64 x0, .int .i64 x1, .int .i64 x2, .int .i64 x3, .int .i64 x4, .int .i64 x5] 43)).cell? ⟨w1.heap.size, 2, none⟩ = some (.int .i64 x2) := by simp [World.cell?_alloc_new]
    have c3 : (w1.alloc (.cells #[.int .i64 x0, .int .i64 x1, .int .i64 x2, .int .i64 x3, .int .i64 x4, .int .i64 x5] 43)).cell? ⟨w1.heap.size, 3, none⟩ = some (.int .i64 x3) := by simp [World.cell?_alloc_new]
    have c4 : (w1.alloc (.cells #[.int .i64 x0, .int .i64 x1, .int .i64 x2, .int .i64 x3, .int .i64 x4, .int .i64 x5] 43)).cell? ⟨w1.heap.size, 4, none⟩ = some (.int .i64 x4) := by simp [World.cell?_alloc_new]
    have c5 : (w1.alloc (.cells #[.int .i64 x0, .int .i64 x1, .int .i64 x2, .int .i64 x3, .int .i64 x4, .int .i64 x5] 43)).cell? ⟨w1.heap.size, 5, none⟩ = some (.int .i64 x5) := by simp [World.cell?_alloc_new]
    have zW : w1.heap.size < (w1.alloc (.cells #[.int .i64 x0, .int .i64 x1, .int .i64 x2, .int .i64 x3, .int .i64 x4, .int .i64 x5] 43)).heap.size := by simp
    have HbW := Lib.hid (Hb1.out.alloc z1 (.cells #[.int .i64 x0, .int .i64 x1, .int .i64 x2, .int .i64 x3, .int .i64 x4, .int .i64 x5] 43))
    generalize w1.alloc (.cells #[.int .i64 x0, .int .i64 x1, .int .i64 x2, .int .i64 x3, .int .i64 x4, .int .i64 x5] 43) = W at *
    refine (tail_any (s.extract 19 s.size) (by simp; omega) _).mono ?_
    rintro e w2 ⟨rfl, hb2⟩
    have d0 := (hb2.cell (p := ⟨w1.heap.size, 0, none⟩) zW).trans c0
    have d1 := (hb2.cell (p := ⟨w1.heap.size, 1, none⟩) zW).trans c1
    have d2 := (hb2.cell (p := ⟨w1.heap.size, 2, none⟩) zW).trans c2
    have d3 := (hb2.cell (p := ⟨w1.heap.size, 3, none⟩) zW).trans c3
    have d4 := (hb2.cell (p := ⟨w1.heap.size, 4, none⟩) zW).trans c4
    have d5 := (hb2.cell (p := ⟨w1.heap.size, 5, none⟩) zW).trans c5
    have Hb2 := Lib.hid (HbW.out.trans (hb2.mono (by omega)))
    clear c0 c1 c2 c3 c4 c5 hb2 HbW
    generalize tailF (s.extract 19 s.size) = T at *
    cases T with
    | false =>
      have Hr : Hid (secOK s = false) := Lib.hid (by rw [HP.out]; rfl)
      go_wp2_with fail
      go_ret2
      exact secPost_no Hr.out Hb2.out
    | true =>
      by_cases g3 : 23 < x3
      · have Hr : Hid (secOK s = false) := Lib.hid (by rw [HP.out, decide_eq_true g3]; rfl)
        go_wp2_with fail
        go_ret2
        exact secPost_no Hr.out Hb2.out
      · by_cases g4 : 59 < x4
        · have Hr : Hid (secOK s = false) := Lib.hid (by rw [HP.out, decide_eq_true g4]; simp)
          go_wp2_with fail
          go_ret2
          exact secPost_no Hr.out Hb2.out
        · by_cases g5 : 59 < x5
          · have Hr : Hid (secOK s = false) := Lib.hid (by rw [HP.out, decide_eq_true g5]; simp)
            go_wp2_with fail
            go_ret2
            exact secPost_no Hr.out Hb2.out
          · have HP2 : Hid (secOK s = okD x0 x1 x2) := Lib.hid (by rw [HP.out, decide_eq_false g3, decide_eq_false g4, decide_eq_false g5]; rfl)
            clear HP
            go_wp2_with fail
            refine (HD.out _).mono ?_
            rintro e w3 ⟨rfl, rfl⟩
            cases ho : okD x0 x1 x2 with
            | false =>
              have Hr : Hid (secOK s = false) := Lib.hid (HP2.out.trans ho)
              go_wp2_with fail
              go_ret2
              exact secPost_no Hr.out Hb2.out
            | true =>
              have Hr : Hid (secOK s = true) := Lib.hid (HP2.out.trans ho)
              go_wp2_with fail
              go_ret2
              exact ⟨ret_day (by rw [HV.out Hr.out]; omega) Hr.out.symm, Hb2.out⟩
theorem secs_at (s : ByteArray) (n : Int) (b : Bool) (hn : secV s = n) (hb : secOK s = b) (hs : s.size ≤ 140737488355328) (w : World) : Calls Tryd.prog 10 #[.string s] w fun e w' => e = .returned (.tuple #[.int .i64 n, .bool b]) ∧ Below w.heap.size w w' := by
  subst hn; subst hb; exact seconds_any s hs w
theorem rsecs_at (s : ByteArray) (n : Int) (b : Bool) (hn : secV s = n) (hb : secOK s = b) (hs : s.size ≤ 140737488355328) (w : World) : Calls Tryd.prog 11 #[.string s] w fun e w' => e = .returned (.tuple #[.int .i64 n, .bool b]) ∧ w = w' := by
  subst hn; subst hb; exact rseconds_any s hs w
set_option maxHeartbeats 1000000 in
theorem is_any (s : ByteArray) (hs : s.size ≤ 140737488355328) (w : World) : Calls Tryd.prog 13 #[.string s] w fun e w' => e = .returned (.bool (secOK s)) ∧ Below w.heap.size w w' := by
  obtain ⟨n, hn⟩ : ∃ n, secV s = n := ⟨_, rfl⟩
  obtain ⟨b, hb⟩ : ∃ n, secOK s = n := ⟨_, rfl⟩
  have HS := Lib.hid (secs_at s n b hn hb hs)
  have Hb := Lib.hid hb
  clear hn hb
  go_enter Tryd.func13, Tryd.ntmps13
  go_wp2_with fail
  refine (HS.out _).mono ?_
  rintro e w1 ⟨rfl, hb1⟩
  have Hb1 := Lib.hid hb1
  clear hb1
  go_wp2_with fail
  go_ret
  exact ⟨ret_bool' Hb.out.symm, Hb1.out⟩
end Go.Proofs.YtijpbfafkdpolaaDoor
