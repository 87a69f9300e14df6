import Derived.Test.YtijpbfafkdpolaaDoorQ15d
import Derived.StillTailTactics
import Derived.Outline
import Derived.Deep.CutRange
namespace Go.Proofs.YtijpbfafkdpolaaDoor
open Go.RowKit Go.Shelf

def XAt (b : Nat) (pa : ByteArray) (pb : Int) (pc : ByteArray) (pq : Bool) (pd : ByteArray) (w : World) : Prop := w.cell? ⟨b, 0, none⟩ = some (.string pa) ∧ w.cell? ⟨b, 1, none⟩ = some (.int .i64 pb) ∧ w.cell? ⟨b, 2, none⟩ = some (.string pc) ∧ w.cell? ⟨b, 3, none⟩ = some (.bool pq) ∧ w.cell? ⟨b, 4, none⟩ = some (.string pd)
theorem xat_new (w : World) (pa : ByteArray) (pb : Int) (pc : ByteArray) (pq : Bool) (pd : ByteArray) : XAt w.heap.size pa pb pc pq pd (w.alloc (.cells #[.string pa, .int .i64 pb, .string pc, .bool pq, .string pd] 41)).drew :=
  ⟨by simp [World.cell?_alloc_new, go_sem], by simp [World.cell?_alloc_new, go_sem], by simp [World.cell?_alloc_new, go_sem], by simp [World.cell?_alloc_new, go_sem], by simp [World.cell?_alloc_new, go_sem]⟩
theorem XAt.below {b B : Nat} {pa pc pd : ByteArray} {pb : Int} {pq : Bool} {w w' : World} (h : XAt b pa pb pc pq pd w) (hb : Below B w w') (hB : b < B) : XAt b pa pb pc pq pd w' :=
  ⟨(hb.cell hB).trans h.1, (hb.cell hB).trans h.2.1, (hb.cell hB).trans h.2.2.1, (hb.cell hB).trans h.2.2.2.1, (hb.cell hB).trans h.2.2.2.2⟩
/-- the still walk, its goal kept from being unfolded by the elaborator (a skipped operation's goal is evaluated whole otherwise) -/
@[irreducible] def wpStillI (P : Program) (ops : Array Oper) (w : World) (Q : Act → Prop) (l : List Oper) (a : Act) : Prop := wpStill P ops w Q l a
theorem stI_start {P : Program} {ops : Array Oper} {w : World} {Q : Act → Prop} {l : List Oper} {a : Act} (h : wpStillI P ops w Q l a) : wpStill P ops w Q l a := by
  unfold wpStillI at h; exact h
theorem stI_nil {P : Program} {ops : Array Oper} {w : World} {Q : Act → Prop} {a : Act} (h : Q a) : wpStillI P ops w Q [] a := by
  unfold wpStillI; exact wpStill_nil h
theorem stI_step {P : Program} {ops : Array Oper} {w : World} {Q : Act → Prop} {a : Act} {o : Oper} {rest : List Oper}
    (h : ∀ K : Act → Prop, (∀ a, wpStillI P ops w Q rest a → K a) → if Region.wanted o (yielded ops a.tmps) then o.still P a w K else K (a.put o.dst undef)) : wpStillI P ops w Q (o :: rest) a := by
  unfold wpStillI at h ⊢
  exact wpStill_step h
/-- .. and the walk of a region that draws no order -/
@[irreducible] def wpListI (P : Program) (ops : Array Oper) (Q : Exit → Act → World → Prop) (l : List Oper) (a : Act) (w : World) : Prop := wpList P ops Q l a w
theorem liI_start {P : Program} {Q : Exit → Act → World → Prop} {a : Act} {w : World} {id : Nat} {l : List Oper} (h : wpListI P l.toArray Q l a w) : (Code.region id l.toArray false).wp P Q a w := by
  unfold wpListI at h; exact wp_region_lit h
theorem liI_nil {P : Program} {ops : Array Oper} {Q : Exit → Act → World → Prop} {a : Act} {w : World} (h : Q .normal a w) : wpListI P ops Q [] a w := by
  unfold wpListI; exact wpList_nil h
theorem liI_step {P : Program} {ops : Array Oper} {Q : Exit → Act → World → Prop} {a : Act} {w : World} {o : Oper} {rest : List Oper}
    (h : ∀ K : Act → World → Prop, (∀ a w, wpListI P ops Q rest a w → K a w) → if Region.wanted o (yielded ops a.tmps) then o.wp P a w K Q else K (a.put o.dst undef) w) : wpListI P ops Q (o :: rest) a w := by
  unfold wpListI at h ⊢
  exact wpList_step h
theorem less_of : ∀ (x y : List UInt8), x < y → Op.bytesLess x y = true
  | [], [], h => absurd h (by simp)
  | [], _ :: _, _ => by simp [Op.bytesLess]
  | _ :: _, [], h => absurd h (by simp)
  | a :: x, b :: y, h => by
    rw [List.cons_lt_cons_iff] at h
    rcases h with h | ⟨rfl, h⟩
    · simp [Op.bytesLess, h]
    · simp [Op.bytesLess, less_of x y h]
theorem geq_no {x y : Prp} (h : nmP x < nmP y) : Op.bytesLess x.1.toList y.1.toList = true := by
  rw [ByteArray.toList_eq, ByteArray.toList_eq]; exact less_of _ _ h
theorem wrap_i64 (x : Int) (h : 0 ≤ x) (h2 : x ≤ 1000) : IntKind.i64.wrap x = x := by
  simp [IntKind.wrap, IntKind.bits, IntKind.signed]; omega

set_option maxRecDepth 100000 in
set_option maxHeartbeats 8000000 in
theorem schemaRows_walk (n : Int) (W : World) (hn : (0 : Int) ≤ n ∧ n ≤ 255) (hm : MaxAt W) : Calls Tryd.prog 9 #[.int .u8 n] W fun e w' => e = .returned (.bool true) ∧ Below W.heap.size W w' := by
  obtain ⟨n0, n1⟩ := hn
  obtain ⟨k, hk⟩ : ∃ k : Nat, (k : Int) = n % 20 := ⟨(n % 20).toNat, by omega⟩
  have hk20 : k < 20 := by omega
  obtain ⟨of, hof⟩ : ∃ x, typesL.getD k ⟨#[]⟩ = x := ⟨_, rfl⟩
  obtain ⟨t, ht⟩ : ∃ x, propsF of = x := ⟨_, rfl⟩
  obtain ⟨N, hN⟩ : ∃ x, t.length = x := ⟨_, rfl⟩
  have h99 : N ≤ 100 := by rw [← hN, ← ht]; exact props_len of
  have HP := Lib.hid (props_at of N t ht hN)
  have hok : okL t = true := by rw [← ht, ← hof]; exact okL_all ⟨k, hk20⟩
  have Hok := Lib.hid hok
  have hNp : 0 < N := by rw [← hN]; exact okL_len hok
  have Hm := Lib.hid hm
  have hW0 := hm.size
  clear hok hm
  have HN := Lib.hid hN
  have hty := types_cell W k hk20
  have htz : W.heap.size < (W.alloc (.cells #[.string ⟨#[67, 97, 114, 100]⟩, .string ⟨#[65, 100, 100, 114, 101, 115, 115]⟩, .string ⟨#[65, 100, 100, 114, 101, 115, 115, 67, 111, 109, 112, 111, 110, 101, 110, 116]⟩, .string ⟨#[65, 110, 110, 105, 118, 101, 114, 115, 97, 114, 121]⟩, .string ⟨#[69, 109, 97, 105, 108, 65, 100, 100, 114, 101, 115, 115]⟩, .string ⟨#[76, 97, 110, 103, 117, 97, 103, 101, 80, 114, 101, 102]⟩, .string ⟨#[76, 105, 110, 107]⟩, .string ⟨#[77, 101, 100, 105, 97]⟩, .string ⟨#[78, 97, 109, 101]⟩, .string ⟨#[78, 97, 109, 101, 67, 111, 109, 112, 111, 110, 101, 110, 116]⟩, .string ⟨#[78, 105, 99, 107, 110, 97, 109, 101]⟩, .string ⟨#[78, 111, 116, 101]⟩, .string ⟨#[79, 110, 108, 105, 110, 101, 83, 101, 114, 118, 105, 99, 101]⟩, .string ⟨#[79, 114, 103, 85, 110, 105, 116]⟩, .string ⟨#[79, 114, 103, 97, 110, 105, 122, 97, 116, 105, 111, 110]⟩, .string ⟨#[80, 97, 114, 116, 105, 97, 108, 68, 97, 116, 101]⟩, .string ⟨#[80, 104, 111, 110, 101]⟩, .string ⟨#[82, 101, 108, 97, 116, 105, 111, 110]⟩, .string ⟨#[84, 105, 109, 101, 115, 116, 97, 109, 112]⟩, .string ⟨#[84, 105, 116, 108, 101]⟩] 9)).heap.size := by simp
  have B0 := Lib.hid ((Below.refl W.heap.size W).alloc (Nat.le_refl _) (.cells #[.string ⟨#[67, 97, 114, 100]⟩, .string ⟨#[65, 100, 100, 114, 101, 115, 115]⟩, .string ⟨#[65, 100, 100, 114, 101, 115, 115, 67, 111, 109, 112, 111, 110, 101, 110, 116]⟩, .string ⟨#[65, 110, 110, 105, 118, 101, 114, 115, 97, 114, 121]⟩, .string ⟨#[69, 109, 97, 105, 108, 65, 100, 100, 114, 101, 115, 115]⟩, .string ⟨#[76, 97, 110, 103, 117, 97, 103, 101, 80, 114, 101, 102]⟩, .string ⟨#[76, 105, 110, 107]⟩, .string ⟨#[77, 101, 100, 105, 97]⟩, .string ⟨#[78, 97, 109, 101]⟩, .string ⟨#[78, 97, 109, 101, 67, 111, 109, 112, 111, 110, 101, 110, 116]⟩, .string ⟨#[78, 105, 99, 107, 110, 97, 109, 101]⟩, .string ⟨#[78, 111, 116, 101]⟩, .string ⟨#[79, 110, 108, 105, 110, 101, 83, 101, 114, 118, 105, 99, 101]⟩, .string ⟨#[79, 114, 103, 85, 110, 105, 116]⟩, .string ⟨#[79, 114, 103, 97, 110, 105, 122, 97, 116, 105, 111, 110]⟩, .string ⟨#[80, 97, 114, 116, 105, 97, 108, 68, 97, 116, 101]⟩, .string ⟨#[80, 104, 111, 110, 101]⟩, .string ⟨#[82, 101, 108, 97, 116, 105, 111, 110]⟩, .string ⟨#[84, 105, 109, 101, 115, 116, 97, 109, 112]⟩, .string ⟨#[84, 105, 116, 108, 101]⟩] 9))
  rw [hof] at hty
  have Hty := Lib.hid hty
  clear hN ht hof hty
  have hmod : n % 20 = (k : Int) := hk.symm
  clear hk
  go_enter Tryd.func9, Tryd.ntmps9
  go_wp2_with fail
  refine (types_any _).mono ?_
  rintro e w0 ⟨rfl, hw0⟩
  rw [hw0] at Hty htz B0
  clear hw0
  have Hty1 := Hty.out
  go_wp2_with fail
  refine (awake_any _).mono ?_
  rintro e w1 ⟨rfl, hb1⟩
  have t1 : w1.cell? ⟨W.heap.size, k, none⟩ = some (.string of) := (hb1.cell (p := ⟨W.heap.size, k, none⟩) htz).trans Hty1
  have tz1 : W.heap.size < w1.heap.size := Nat.lt_of_lt_of_le htz hb1.size
  have B1 := Lib.hid (B0.out.trans (hb1.mono (Nat.le_of_lt htz)))
  clear hb1 Hty1
  go_wp2_with fail
  refine (HP.out _).mono ?_
  rintro e w2 ⟨A2, c2, rfl, ho, hb2⟩
  have Ho := Lib.hid ho
  have Hb2 := Lib.hid hb2
  have z2 := hb2.size
  clear ho hb2 t1
  have Hb2' := Lib.hid (B1.out.trans (Hb2.out.mono B1.out.size))
  have zw2 : 0 < w2.heap.size := by omega
  go_wp2_with fail
  go_loopw [6] (fun ti wr => ∃ i : Nat, i ≤ N ∧ ti = .int .i64 i ∧ Below w2.heap.size w2 wr) (fun ti _ => N - (intOf ti).toNat)
  case atStart => exact ⟨0, Nat.zero_le _, rfl, Below.refl _ _⟩
  case round =>
    obtain ⟨i, hi, rfl, hbw⟩ := hrel
    have Hbw := Lib.hid hbw
    have zb := hbw.size
    clear hbw
    by_cases hlt : i < N
    · obtain ⟨g, rfl, _⟩ := own_some (by omega) Ho.out
      have hgl := own_lt Ho.out
      have hgr : g < wr.heap.size := Nat.lt_of_lt_of_le hgl zb
      have hcell := own_cell (own_below Ho.out Hbw.out (Nat.le_refl _)) HN.out hlt
      have Hp := Lib.hid (okP_at Hok.out i (by rw [HN.out]; exact hlt))
      have Hrise : Hid (∀ j : Nat, j + 1 = i → nmP (t.getD j noP) < nmP (t.getD i noP)) := Lib.hid (by
        rintro j rfl
        exact rise_at t j (by have := Hok.out; simp only [okL, Bool.and_eq_true] at this; exact this.2) (by rw [HN.out]; exact hlt))
      have Hprev : Hid (∀ j : Nat, j + 1 = i → wr.cell? ⟨g, j * 5, none⟩ = some (.string (t.getD j noP).1)) := Lib.hid (by
        rintro j rfl
        exact own_cell (own_below Ho.out Hbw.out (Nat.le_refl _)) HN.out (by omega) 0 _ rfl)
      generalize t.getD i noP = p at hcell Hp Hrise
      obtain ⟨pa, pb, pc, pq, pd⟩ := p
      have h0 : wr.cell? ⟨g, i * 5, none⟩ = some (.string pa) := hcell 0 _ rfl
      have h1 : wr.cell? ⟨g, i * 5 + 1, none⟩ = some (.int .i64 pb) := hcell 1 _ rfl
      have h2 : wr.cell? ⟨g, i * 5 + 2, none⟩ = some (.string pc) := hcell 2 _ rfl
      have h3 : wr.cell? ⟨g, i * 5 + 3, none⟩ = some (.bool pq) := hcell 3 _ rfl
      have h4 : wr.cell? ⟨g, i * 5 + 4, none⟩ = some (.string pd) := hcell 4 _ rfl
      clear hcell
      obtain ⟨hb1, hb2⟩ := okP_bd Hp.out
      have hxz : wr.heap.size < (wr.alloc (.cells #[.string pa, .int .i64 pb, .string pc, .bool pq, .string pd] 41)).drew.heap.size := by simp [World.drew]
      have HX : Hid (XAt wr.heap.size pa pb pc pq pd (wr.alloc (.cells #[.string pa, .int .i64 pb, .string pc, .bool pq, .string pd] 41)).drew ∧ Below w2.heap.size w2 (wr.alloc (.cells #[.string pa, .int .i64 pb, .string pc, .bool pq, .string pd] 41)).drew) := Lib.hid ⟨xat_new wr pa pb pc pq pd, (Hbw.out.alloc zb _).drew⟩
      go_upto_region 10 with fail
      go_cut [63] from 32 to 124 (fun s63 wx => s63 = .bool false ∧ wx = (wr.alloc (.cells #[.string pa, .int .i64 pb, .string pc, .bool pq, .string pd] 41)).drew)
      case first =>
        rename_i hJJ hKK
        obtain ⟨⟨x0, x1, x2, x3, x4⟩, -⟩ := HX.out
        have hge1 : ¬ pb < 1 := by omega
        have hge2 : ¬ 18 < pb := by omega
        have hmd : Hid (pq = false ∨ pd.size = 0) := Lib.hid (okP_must Hp.out)
        have hmust : pq = false ∨ (pq = true ∧ pd.toList.isEmpty = true) := by
          cases pq
          · exact .inl rfl
          · rcases hmd.out with h | h
            · cases h
            · exact .inr ⟨rfl, by rw [toList_nil h]; rfl⟩
        rcases hmust with rfl | ⟨rfl, hpe⟩
        · rcases Nat.eq_zero_or_pos i with hi0 | hip
          · have hz0 : ¬ (0 < i) := by omega
            clear hi0 Hrise Hprev Ho HP
            refine wp_region_still_lit (by kernel_rfl) (by kernel_rfl) ?_
            rw [show ({ (wr.alloc (.cells #[.string pa, .int .i64 pb, .string pc, .bool false, .string pd] 41)) with drawn := (wr.alloc (.cells #[.string pa, .int .i64 pb, .string pc, .bool false, .string pd] 41)).drawn + 1 } : World) = (wr.alloc (.cells #[.string pa, .int .i64 pb, .string pc, .bool false, .string pd] 41)).drew from rfl]
            generalize (wr.alloc (.cells #[.string pa, .int .i64 pb, .string pc, .bool false, .string pd] 41)).drew = wx at *
            refine stI_start ?_
            iterate 32 (refine stI_step (fun K hK => ?_); go_simp; refine hK _ ?_; clear hK K)
            refine stI_nil ?_
            refine hKK _ _ (Met.intro (hJJ _ _ ?_))
            (repeat apply Exists.intro)
            exact ⟨⟨rfl, rfl⟩, rfl⟩
          · obtain ⟨j, rfl⟩ : ∃ j, i = j + 1 := ⟨i - 1, by omega⟩
            have hpc := Hprev.out j rfl
            have hge0 := geq_no (Hrise.out j rfl)
            have hpc2 : (wr.alloc (.cells #[.string pa, .int .i64 pb, .string pc, .bool false, .string pd] 41)).drew.cell? ⟨g, j * 5, none⟩ = some (.string (t.getD j noP).1) := by rw [← hpc]; exact World.cell?_alloc_lt wr _ _ hgr
            clear hpc
            generalize (t.getD j noP).1 = ya at hpc2 hge0
            have hge : Op.bytesLess ya.toList pa.toList = true := hge0
            clear hge0
            have hwj : IntKind.i64.wrap (j : Int) = (j : Int) := wrap_i64 _ (by omega) (by omega)
            have hj0 : (0 : Int) ≤ (j : Int) := by omega
            have hjN : (j : Int) < (N : Int) := by omega
            clear Hrise Hprev Ho HP
            refine wp_region_still_lit (by kernel_rfl) (by kernel_rfl) ?_
            rw [show ({ (wr.alloc (.cells #[.string pa, .int .i64 pb, .string pc, .bool false, .string pd] 41)) with drawn := (wr.alloc (.cells #[.string pa, .int .i64 pb, .string pc, .bool false, .string pd] 41)).drawn + 1 } : World) = (wr.alloc (.cells #[.string pa, .int .i64 pb, .string pc, .bool false, .string pd] 41)).drew from rfl]
            generalize (wr.alloc (.cells #[.string pa, .int .i64 pb, .string pc, .bool false, .string pd] 41)).drew = wx at *
            refine stI_start ?_
            iterate 32 (refine stI_step (fun K hK => ?_); go_simp; refine hK _ ?_; clear hK K)
            refine stI_nil ?_
            refine hKK _ _ (Met.intro (hJJ _ _ ?_))
            (repeat apply Exists.intro)
            exact ⟨⟨rfl, rfl⟩, rfl⟩
        · rcases Nat.eq_zero_or_pos i with hi0 | hip
          · have hz0 : ¬ (0 < i) := by omega
            clear hi0 Hrise Hprev Ho HP
            refine wp_region_still_lit (by kernel_rfl) (by kernel_rfl) ?_
            rw [show ({ (wr.alloc (.cells #[.string pa, .int .i64 pb, .string pc, .bool true, .string pd] 41)) with drawn := (wr.alloc (.cells #[.string pa, .int .i64 pb, .string pc, .bool true, .string pd] 41)).drawn + 1 } : World) = (wr.alloc (.cells #[.string pa, .int .i64 pb, .string pc, .bool true, .string pd] 41)).drew from rfl]
            generalize (wr.alloc (.cells #[.string pa, .int .i64 pb, .string pc, .bool true, .string pd] 41)).drew = wx at *
            refine stI_start ?_
            iterate 32 (refine stI_step (fun K hK => ?_); go_simp; refine hK _ ?_; clear hK K)
            refine stI_nil ?_
            refine hKK _ _ (Met.intro (hJJ _ _ ?_))
            (repeat apply Exists.intro)
            exact ⟨⟨rfl, rfl⟩, rfl⟩
          · obtain ⟨j, rfl⟩ : ∃ j, i = j + 1 := ⟨i - 1, by omega⟩
            have hpc := Hprev.out j rfl
            have hge0 := geq_no (Hrise.out j rfl)
            have hpc2 : (wr.alloc (.cells #[.string pa, .int .i64 pb, .string pc, .bool true, .string pd] 41)).drew.cell? ⟨g, j * 5, none⟩ = some (.string (t.getD j noP).1) := by rw [← hpc]; exact World.cell?_alloc_lt wr _ _ hgr
            clear hpc
            generalize (t.getD j noP).1 = ya at hpc2 hge0
            have hge : Op.bytesLess ya.toList pa.toList = true := hge0
            clear hge0
            have hwj : IntKind.i64.wrap (j : Int) = (j : Int) := wrap_i64 _ (by omega) (by omega)
            have hj0 : (0 : Int) ≤ (j : Int) := by omega
            have hjN : (j : Int) < (N : Int) := by omega
            clear Hrise Hprev Ho HP
            refine wp_region_still_lit (by kernel_rfl) (by kernel_rfl) ?_
            rw [show ({ (wr.alloc (.cells #[.string pa, .int .i64 pb, .string pc, .bool true, .string pd] 41)) with drawn := (wr.alloc (.cells #[.string pa, .int .i64 pb, .string pc, .bool true, .string pd] 41)).drawn + 1 } : World) = (wr.alloc (.cells #[.string pa, .int .i64 pb, .string pc, .bool true, .string pd] 41)).drew from rfl]
            generalize (wr.alloc (.cells #[.string pa, .int .i64 pb, .string pc, .bool true, .string pd] 41)).drew = wx at *
            refine stI_start ?_
            iterate 32 (refine stI_step (fun K hK => ?_); go_simp; refine hK _ ?_; clear hK K)
            refine stI_nil ?_
            refine hKK _ _ (Met.intro (hJJ _ _ ?_))
            (repeat apply Exists.intro)
            exact ⟨⟨rfl, rfl⟩, rfl⟩
      case rest =>
        obtain ⟨rfl, rfl⟩ := hcut
        obtain ⟨hx, hbx⟩ := HX.out
        have HM : Hid (MaxAt (wr.alloc (.cells #[.string pa, .int .i64 pb, .string pc, .bool pq, .string pd] 41)).drew) := Lib.hid (Hm.out.below (Hb2'.out.trans (hbx.mono Hb2'.out.size)) hW0)
        generalize (wr.alloc (.cells #[.string pa, .int .i64 pb, .string pc, .bool pq, .string pd] 41)).drew = wx at *
        have zx := hbx.size
        have HXB := Lib.hid hbx
        have Hx := Lib.hid hx
        obtain ⟨x0, x1, x2, x3, x4⟩ := hx
        have HD := Lib.hid (okP_dflt Hp.out)
        clear hbx HX Hrise Hprev Ho HP h0 h1 h2 h3 h4
        by_cases hr : 12 ≤ pb ∧ pb ≤ 15
        · obtain ⟨r1, r2⟩ := hr
          have hpos := okP_ref Hp.out ⟨r1, r2⟩
          have hd0 : pd.size = 0 := by
            rcases HD.out with h | ⟨_, h, _⟩ | ⟨_, h, _⟩
            · exact h
            · omega
            · omega
          have hE : pd.toList.isEmpty = true := by rw [toList_nil hd0]; rfl
          obtain ⟨M, hM⟩ : ∃ M, (propsF pc).length = M := ⟨_, rfl⟩
          rw [hM] at hpos
          have HP2 := Lib.hid (props_at pc M _ rfl hM)
          have q1 : ¬ M = 0 := by omega
          have q2 : (pb == 11) = false := by simp; omega
          have q3 : (pb == 17) = false := by simp; omega
          have q2' : ¬ pb = 11 := by omega
          have q4 : ¬ pb = 3 := by omega
          clear hM hd0
          cases hce : pc.toList.isEmpty
          all_goals
            go_upto_region 12 with fail
            refine liI_start ?_
            iterate 9 (refine liI_step (fun K hK => ?_); go_simp; refine hK _ _ ?_; clear hK K)
            refine liI_nil ?_
            go_upto_region 13 with fail
            refine liI_start ?_
            iterate 4 (refine liI_step (fun K hK => ?_); go_simp; refine hK _ _ ?_; clear hK K)
            refine liI_step (fun K hK => ?_)
            go_simp
            refine (HP2.out _).mono ?_
            rintro e w4 ⟨A4, c4, rfl, ho4, hb4⟩
            refine hK _ _ ?_
            clear hK K
            obtain ⟨y0, y1, y2, y3, y4⟩ := Hx.out.below hb4 hxz
            have HB4 := Lib.hid (HXB.out.trans (hb4.mono zx))
            clear ho4 hb4 x0 x1 x2 x3 x4
            iterate 21 (refine liI_step (fun K hK => ?_); go_simp; refine hK _ _ ?_; clear hK K)
            refine liI_nil ?_
            go_upto_region 15 with fail
            refine liI_start ?_
            iterate 27 (refine liI_step (fun K hK => ?_); go_simp; refine hK _ _ ?_; clear hK K)
            refine liI_nil ?_
            go_wp2_with fail
            go_roundw
            case rel => exact ⟨i + 1, by omega, by go_num, HB4.out⟩
            case measure => simp [intOf]; omega
        · have hnr : pb < 12 ∨ 15 < pb := by omega
          have hag := okP_arg Hp.out hr
          clear hr
          rcases hag with ⟨h1117, hpc⟩ | ⟨⟨hn11, hn17⟩, hpc⟩
          · have hcE : pc.toList.isEmpty = false := by simpa using ne_isEmpty hpc
            rcases h1117 with rfl | rfl
            · rcases HD.out with hd0 | ⟨hdp, _, hcs, hin⟩ | ⟨_, h3, _⟩
              · have hE : pd.toList.isEmpty = true := by rw [toList_nil hd0]; rfl
                clear hd0
                go_upto_region 12 with fail
                refine liI_start ?_
                iterate 9 (refine liI_step (fun K hK => ?_); go_simp; refine hK _ _ ?_; clear hK K)
                refine liI_nil ?_
                go_upto_region 13 with fail
                refine liI_start ?_
                iterate 26 (refine liI_step (fun K hK => ?_); go_simp; refine hK _ _ ?_; clear hK K)
                refine liI_nil ?_
                go_upto_region 15 with fail
                refine liI_start ?_
                iterate 27 (refine liI_step (fun K hK => ?_); go_simp; refine hK _ _ ?_; clear hK K)
                refine liI_nil ?_
                go_wp2_with fail
                go_roundw
                case rel => exact ⟨i + 1, by omega, by go_num, HXB.out⟩
                case measure => simp [intOf]; omega
              · have hE : pd.toList.isEmpty = false := by simpa using ne_isEmpty hdp
                have HI := Lib.hid (in_at pc pd hcs hdp hin _ HM.out)
                clear hcs hin
                go_upto_region 12 with fail
                refine liI_start ?_
                iterate 9 (refine liI_step (fun K hK => ?_); go_simp; refine hK _ _ ?_; clear hK K)
                refine liI_nil ?_
                go_upto_region 13 with fail
                refine liI_start ?_
                iterate 26 (refine liI_step (fun K hK => ?_); go_simp; refine hK _ _ ?_; clear hK K)
                refine liI_nil ?_
                go_upto_region 15 with fail
                refine liI_start ?_
                iterate 12 (refine liI_step (fun K hK => ?_); go_simp; refine hK _ _ ?_; clear hK K)
                refine liI_step (fun K hK => ?_)
                go_simp
                refine (HI.out).mono ?_
                rintro e w4 ⟨rfl, hb4⟩
                refine hK _ _ ?_
                clear hK K
                obtain ⟨y0, y1, y2, y3, y4⟩ := Hx.out.below hb4 hxz
                have HB4 := Lib.hid (HXB.out.trans (hb4.mono zx))
                clear hb4 x0 x1 x2 x3 x4
                iterate 14 (refine liI_step (fun K hK => ?_); go_simp; refine hK _ _ ?_; clear hK K)
                refine liI_nil ?_
                go_wp2_with fail
                go_roundw
                case rel => exact ⟨i + 1, by omega, by go_num, HB4.out⟩
                case measure => simp [intOf]; omega
              · omega
            · have hE : pd.toList.isEmpty = true := by
                rcases HD.out with h | ⟨_, h, _⟩ | ⟨_, h, _⟩
                · rw [toList_nil h]; rfl
                · omega
                · omega
              go_upto_region 12 with fail
              refine liI_start ?_
              iterate 9 (refine liI_step (fun K hK => ?_); go_simp; refine hK _ _ ?_; clear hK K)
              refine liI_nil ?_
              go_upto_region 13 with fail
              refine liI_start ?_
              iterate 26 (refine liI_step (fun K hK => ?_); go_simp; refine hK _ _ ?_; clear hK K)
              refine liI_nil ?_
              go_upto_region 15 with fail
              refine liI_start ?_
              iterate 27 (refine liI_step (fun K hK => ?_); go_simp; refine hK _ _ ?_; clear hK K)
              refine liI_nil ?_
              go_wp2_with fail
              go_roundw
              case rel => exact ⟨i + 1, by omega, by go_num, HXB.out⟩
              case measure => simp [intOf]; omega
          · have hcE : pc.toList.isEmpty = true := by rw [toList_nil hpc]; rfl
            rcases HD.out with hd0 | ⟨_, h11, _⟩ | ⟨hdp, rfl, rfl⟩
            · have hE : pd.toList.isEmpty = true := by rw [toList_nil hd0]; rfl
              clear hd0
              rcases hnr with hnr | hnr
              · have q1 : ¬ 12 ≤ pb := by omega
                go_upto_region 12 with fail
                refine liI_start ?_
                iterate 9 (refine liI_step (fun K hK => ?_); go_simp; refine hK _ _ ?_; clear hK K)
                refine liI_nil ?_
                go_upto_region 13 with fail
                refine liI_start ?_
                iterate 26 (refine liI_step (fun K hK => ?_); go_simp; refine hK _ _ ?_; clear hK K)
                refine liI_nil ?_
                go_upto_region 15 with fail
                refine liI_start ?_
                iterate 27 (refine liI_step (fun K hK => ?_); go_simp; refine hK _ _ ?_; clear hK K)
                refine liI_nil ?_
                go_wp2_with fail
                go_roundw
                case rel => exact ⟨i + 1, by omega, by go_num, HXB.out⟩
                case measure => simp [intOf]; omega
              · have q1 : 12 ≤ pb := by omega
                have q2 : ¬ pb ≤ 15 := by omega
                go_upto_region 12 with fail
                refine liI_start ?_
                iterate 9 (refine liI_step (fun K hK => ?_); go_simp; refine hK _ _ ?_; clear hK K)
                refine liI_nil ?_
                go_upto_region 13 with fail
                refine liI_start ?_
                iterate 26 (refine liI_step (fun K hK => ?_); go_simp; refine hK _ _ ?_; clear hK K)
                refine liI_nil ?_
                go_upto_region 15 with fail
                refine liI_start ?_
                iterate 27 (refine liI_step (fun K hK => ?_); go_simp; refine hK _ _ ?_; clear hK K)
                refine liI_nil ?_
                go_wp2_with fail
                go_roundw
                case rel => exact ⟨i + 1, by omega, by go_num, HXB.out⟩
                case measure => simp [intOf]; omega
            · omega
            · have hE : (⟨#[102, 97, 108, 115, 101]⟩ : ByteArray).toList.isEmpty = false := by simp
              go_upto_region 12 with fail
              refine liI_start ?_
              iterate 9 (refine liI_step (fun K hK => ?_); go_simp; refine hK _ _ ?_; clear hK K)
              refine liI_nil ?_
              go_upto_region 13 with fail
              refine liI_start ?_
              iterate 26 (refine liI_step (fun K hK => ?_); go_simp; refine hK _ _ ?_; clear hK K)
              refine liI_nil ?_
              go_upto_region 15 with fail
              refine liI_start ?_
              iterate 27 (refine liI_step (fun K hK => ?_); go_simp; refine hK _ _ ?_; clear hK K)
              refine liI_nil ?_
              go_wp2_with fail
              go_roundw
              case rel => exact ⟨i + 1, by omega, by go_num, HXB.out⟩
              case measure => simp [intOf]; omega
    · go_wp2_with fail
      go_ret
      exact ⟨ret_boolM'' (by simp <;> omega), Hb2'.out.trans (Hbw.out.mono (Hb2'.out.size))⟩
end Go.Proofs.YtijpbfafkdpolaaDoor
