/- Words for memory: a slice that holds cells; 'only draws'. (Plain, over any program.) -/
import Derived.WalkKit
import Derived.Deep.Draws
import Derived.WalkSpells
import Derived.Lib.Hide
namespace Go.Proofs.YtijpbfafkdpolaaDoor
open Go.RowKit

/-- the slice at A holds the cells vs; its block lies below B -/
def Rd (w : World) (B : Nat) (A : Option Addr) (vs : List Value) : Prop :=
  vs = [] ∨ ∃ b off, A = some ⟨b, off, none⟩ ∧ b < B ∧ ∀ j v, vs[j]? = some v → w.cell? ⟨b, off + j, none⟩ = some v

section
variable {w w' : World} {B B' : Nat} {A : Option Addr} {vs : List Value}
theorem Rd.nil : Rd w B A [] := .inl rfl
theorem Rd.at_ (h : Rd w B A vs) (hne : 0 < vs.length) : ∃ b off, A = some ⟨b, off, none⟩ ∧ b < B ∧ ∀ j v, vs[j]? = some v → w.cell? ⟨b, off + j, none⟩ = some v := by
  rcases h with rfl | h
  · simp at hne
  · exact h
theorem Rd.keep (h : Rd w B A vs) (hk : ∀ p : Addr, p.block < B → w'.cell? p = w.cell? p) : Rd w' B A vs := by
  rcases h with h | ⟨b, off, e, hb, hc⟩
  · exact .inl h
  · exact .inr ⟨b, off, e, hb, fun j v hv => (hk _ hb).trans (hc j v hv)⟩
theorem Rd.mono (h : Rd w B A vs) (hB : B ≤ B') : Rd w B' A vs := by
  rcases h with h | ⟨b, off, e, hb, hc⟩
  · exact .inl h
  · exact .inr ⟨b, off, e, Nat.lt_of_lt_of_le hb hB, hc⟩
theorem Rd.below (h : Rd w B A vs) (hb : Below B w w') : Rd w' B A vs := h.keep fun _ hp => hb.cell hp
theorem Rd.cut {f m ca : Nat} (h : Rd w B A vs) (hf : f + m ≤ vs.length) (hca : vs.length ≤ ca) : Rd w B (if ca = f then A else A.map (·.add f)) ((vs.drop f).take m) := by
  rcases Nat.eq_zero_or_pos m with h0 | h0
  · left; subst h0; simp
  · obtain ⟨b, off, rfl, hb, hc⟩ := h.at_ (by omega)
    rw [if_neg (by omega)]
    right
    refine ⟨b, off + f, by simp [Addr.add_lit], hb, fun j v hv => ?_⟩
    rw [List.getElem?_take] at hv
    split at hv
    · rw [List.getElem?_drop] at hv
      rw [Nat.add_assoc]
      exact hc _ _ hv
    · cases hv
theorem Rd.of_own {base : Nat} {e : TypeId} {n c : Nat} (h : w.ownsRow base e 1 (.slice A n c) n vs) : Rd w w.heap.size A vs := by
  have hl := h.1
  rcases h.2 with ⟨_, h0⟩ | ⟨g, cap, cur, hv, hb, hg, _⟩
  · left; subst h0; exact List.eq_nil_of_length_eq_zero (by simpa using hl)
  · right
    injection hv with hA _ hc
    subst hA
    refine ⟨g, 0, rfl, (Array.getElem?_eq_some_iff.1 hg).1, fun j v hv => ?_⟩
    have := h.cells (g := g) rfl j v hv
    rwa [Addr.add_lit] at this
end

theorem rd_of_cells {w : World} {a : Addr} {vs : List Value} (h : ∀ i v, vs[i]? = some v → w.cell? (a.add i) = some v) : Rd w w.heap.size (some a) vs := by
  cases vs with
  | nil => exact .inl rfl
  | cons x l =>
    have h0 := h 0 x rfl
    have e0 : a.add 0 = a := by simp [Addr.add]
    rw [e0] at h0
    have hb := World.block_lt_of_cell? w a h0
    obtain ⟨b, off, sp⟩ := a
    have hsp : sp = none := by
      cases sp with
      | none => rfl
      | some s =>
        simp only [World.cell?] at h0
        split at h0 <;> simp at h0
    subst hsp
    exact .inr ⟨b, off, rfl, hb, fun j v hv => by have := h j v hv; rwa [Addr.add_lit] at this⟩
/-- behind w nothing but draws -/
def Dr (w w' : World) : Prop := ∃ n, w' = w.drewN n
theorem Dr.refl (w : World) : Dr w w := ⟨0, rfl⟩
theorem Dr.n {w w' : World} (h : Dr w w') (k : Nat) : Dr w (w'.drewN k) := by
  obtain ⟨n, rfl⟩ := h
  exact ⟨n + k, by rw [World.drewN_drewN]⟩
theorem Dr.below {w w' : World} {B : Nat} (h : Dr w w') : Below B w w' := by
  obtain ⟨n, rfl⟩ := h
  exact ⟨rfl, rfl, rfl, Nat.le_refl _, fun _ _ => rfl⟩
theorem bytes_extM {a b : ByteArray} (h : a.data.toList = b.data.toList) : a = b := by
  cases a; cases b; simpa [Array.toList_inj] using h
theorem eqS {x y : ByteArray} (h : x = y) : (x.toList == y.toList) = true := by simp [h]
theorem neS {x y : ByteArray} (h : x ≠ y) : (x.toList == y.toList) = false := by
  rw [beq_eq_false_iff_ne, ByteArray.toList_eq, ByteArray.toList_eq]; exact fun e => h (bytes_extM e)
theorem eqS_iff {x y : ByteArray} : (x.toList == y.toList) = true ↔ x = y := by
  rcases Decidable.em (x = y) with e | e
  · exact iff_of_true (eqS e) e
  · rw [neS e]; simp [e]
theorem take_succ_eq {α : Type} (xs : List α) (k : Nat) (h : k < xs.length) : xs.take (k + 1) = xs.take k ++ [xs[k]] := by
  rw [List.take_succ_eq_append_getElem h]
theorem take_eq_step {α : Type} {xs ys : List α} {k : Nat} (lx : k < xs.length) (ly : k < ys.length) (h : xs.take k = ys.take k) : (xs.take (k + 1) = ys.take (k + 1)) ↔ xs[k] = ys[k] := by
  have e1 := take_succ_eq xs k lx
  have e2 := take_succ_eq ys k ly
  rw [e1, e2, h, List.append_right_inj, List.cons.injEq]
  simp
theorem ret_intM {k : IntKind} {a b : Int} (h : a = b) : Ending.returned (.int k a) = .returned (.int k b) := by rw [h]
theorem ret_boolM {a b : Bool} (h : a = b) : Ending.returned (.bool a) = .returned (.bool b) := by rw [h]

/-! ### append of a readable slice onto a row of the call's own (one cell an element) -/
section
variable {P : Program} (w : World)
theorem run_app_nil (base : Nat) (t ty e : TypeId) (i : TypeInfo) (ht : P.underlying t = some (.slice e)) (hi : P.info? e = some i)
    (v : Value) (n : Nat) (xs : List Value) (hown : w.ownsRow base e 1 v n xs) (c : Nat) : (Builtin.append_ #[t, t] ty #[v, .slice none 0 c]).run P w = .ok v w := by
  rcases hown.2 with ⟨rfl, rfl⟩ | ⟨g, cap, cur, rfl, _, _, hnc, _⟩
  · simp [Builtin.append_, run_underlying ht, sizeOf, typeInfo, hi, Builtin.lenOf, Builtin.firstCells]
  · simp [Builtin.append_, run_underlying ht, sizeOf, typeInfo, hi, Builtin.lenOf, Builtin.firstCells, hnc, storeCells]

theorem wpList_app {ops : Array Oper} {rest : List Oper} {o : Oper} {a : Act} {Q : Exit → Act → World → Prop} (hgd : o.guard = none) (s x : Operand) (t e : TypeId)
    (ho : o.op = .call { callee := .builtin .append, args := #[s, x], argTypes := #[t, t] })
    (base : Nat) (z : Value) (bytes : Nat) (ht : P.underlying t = some (.slice e)) (hi : (P.info? e).map (fun i => (i.zero, i.size, i.bytes)) = some (some z, 1, bytes)) (hz : z.cells.size = 1)
    (v : Value) (n : Nat) (xs : List Value) (hs : a.eval s = v) (hown : w.ownsRow base e 1 v n xs)
    (B : Nat) (A : Option Addr) (m c : Nat) (news : List Value) (hx : a.eval x = .slice A m c) (hr : Rd w B A news) (hm : news.length = m) (h1 : ∀ u ∈ news, u.oneCell' = true)
    (hbytes : (n + m) * bytes ≤ 140737488355328) (h63 : n + m ≤ maxLen) (hbase : base ≤ w.heap.size)
    (h : ∀ v' w', w'.ownsRow base e 1 v' (n + m) (xs ++ news) → w.grownBy w' v.ownBlock → wpList P ops Q rest (a.put o.dst v') w') : wpList P ops Q (o :: rest) a w := by
  obtain ⟨i, hi0, hi1, hi2, hi3⟩ := info_parts hi
  rcases A with _ | ad
  · have hn : news = [] := by
      rcases hr with h | ⟨b, off, h, _⟩
      · exact h
      · cases h
    subst hn
    simp only [List.length_nil] at hm
    subst hm
    have hrun := run_app_nil (P := P) w base t o.type e i ht hi0 v n xs hown c
    refine wpList_plain hgd fun K hK => ?_
    unfold Oper.wp execOp
    simp only [ho, resolve, invoke, builtin, Sem.run_bind, Sem.run_pure, Result.andThen_ok, List.map_toArray, List.map_cons, List.map_nil, hs, hx, hrun]
    exact hK _ _ (h v w (by simpa using hown) (World.grownBy.refl w _))
  · have hc : ∀ j u, news[j]? = some u → w.cell? (ad.add j) = some u := by
      intro j u hu
      rcases hr with h | ⟨b, off, h, _, hc⟩
      · subst h; simp at hu
      · injection h with h
        subst h
        rw [Addr.add_lit]
        exact hc j u hu
    exact wpList_append_own w hgd s x t ho base e i z 1 bytes ht hi0 hi1 hi2 hi3 hz (by decide) v n xs hs hown ad m c news hx (by simpa using hm) hc h1 h63 hbytes hbase
      (fun v' w' a b _ => h v' w' a b)
end
theorem own_form {w : World} {base e size n : Nat} {v : Value} {xs : List Value} (h : w.ownsRow base e size v n xs) : ∃ A c, v = .slice A n c := by
  rcases h.2 with ⟨rfl, rfl⟩ | ⟨g, cap, cur, rfl, _⟩
  · exact ⟨_, _, rfl⟩
  · exact ⟨_, _, rfl⟩
theorem own_base {w : World} {base base' e size n : Nat} {v : Value} {xs : List Value} (h : w.ownsRow base e size v n xs) (hb : base' ≤ base) : w.ownsRow base' e size v n xs := by
  refine ⟨h.1, ?_⟩
  rcases h.2 with h | ⟨g, cap, cur, rfl, hg, r⟩
  · exact .inl h
  · exact .inr ⟨g, cap, cur, rfl, Nat.le_trans hb hg, r⟩
theorem Below.own {B : Nat} {a w w' : World} {base e size n : Nat} {v : Value} {xs : List Value} (h : Below B a w) (ho : w.ownsRow base e size v n xs) (hg : w.grownBy w' v.ownBlock) (hB : B ≤ w.heap.size) (hb : B ≤ base) : Below B a w' :=
  h.grown hg hB fun k hk => Nat.le_trans hb (ho.lt k hk).1
theorem rd_new1 (w : World) (v : Value) (e : TypeId) : Rd (w.alloc (.cells #[v] e)) (w.heap.size + 1) (some ⟨w.heap.size, 0, none⟩) [v] := by
  refine .inr ⟨w.heap.size, 0, rfl, by omega, fun j u hu => ?_⟩
  cases j with
  | zero => simp only [List.getElem?_cons_zero, Option.some.injEq] at hu; subst hu; simp [World.cell?_alloc_new]
  | succ j => simp at hu
theorem rd_lit (w : World) (vs : List Value) (e : TypeId) : Rd (w.alloc (.cells vs.toArray e)) (w.heap.size + 1) (some ⟨w.heap.size, 0, none⟩) vs := by
  refine .inr ⟨w.heap.size, 0, rfl, by omega, fun j u hu => ?_⟩
  simp only [Nat.zero_add, World.cell?_alloc_new]
  simpa using hu
theorem one_s1 (x : ByteArray) : ∀ u ∈ [Value.string x], u.oneCell' = true := by
  intro u hu; rw [List.mem_singleton.1 hu]; rfl
theorem one_str (xs : List ByteArray) : ∀ u ∈ xs.map Value.string, u.oneCell' = true := by
  intro u hu; obtain ⟨x, _, rfl⟩ := List.mem_map.1 hu; rfl
end Go.Proofs.YtijpbfafkdpolaaDoor
