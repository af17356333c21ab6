/- Words for lists that a call makes by append: what it owns, how one element or a whole list is appended. -/
import Derived.Test.YtnbkmkeiophjoaaMem
import Derived.Maps.AppendAt
import Derived.Deep.AppendLies
import Derived.Deep.RegionLaw
namespace Go.Proofs.Ytnbkmkeiophjoaa
open Go.RowKit

/-- The value v is a slice of the call's own (or nil), from block B on, that holds the list l. -/
def Own (w : World) (B : Nat) (v : Value) (l : List Int) : Prop := w.ownsRow B 3 1 v l.length (l.map (Value.int .i64))
section
variable {w w' : World} {B : Nat} {v : Value} {l : List Int}
theorem Own.nil (w : World) (B : Nat) : Own w B (.slice none 0 0) [] := World.ownsRow_nil _ _ _ _
theorem Own.drew (h : Own w B v l) : Own w.drew B v l := h
theorem Own.kept {row : Option Nat} (h : Own w B v l) (hg : w.grownBy w' row) (hne : v.ownBlock = none ∨ v.ownBlock ≠ row) : Own w' B v l := World.ownsRow.kept h hg hne
theorem below_grown {W : Nat} {w w' : World} (h : Below W w w') (hW : w.heap.size ≤ W) : w.grownBy w' none := ⟨h.os, h.tape, h.output, h.size, fun k hk _ => h.block k (by omega)⟩
theorem Own.below {W : Nat} (h : Own w B v l) (hb : Below W w w') (hW : w.heap.size ≤ W) : Own w' B v l :=
  h.kept (below_grown hb hW) (by cases hv : v.ownBlock <;> simp)
theorem Own.alloc (h : Own w B v l) (o : Obj) : Own (w.alloc o) B v l := World.ownsRow.alloc h o
theorem Own.form (h : Own w B v l) : ∃ A c, v = .slice A l.length c ∧ l.length ≤ c ∧ Rd w w.heap.size A l ∧ (∀ b, A = some b → B ≤ b.block ∧ b.block < w.heap.size) := by
  rcases h.2 with ⟨rfl, h0⟩ | ⟨g, cap, cur, hv, hb, hg, hc, _⟩
  · have : l = [] := List.eq_nil_of_length_eq_zero h0
    subst this
    exact ⟨none, 0, rfl, Nat.le_refl _, Rd.nil, fun b hb => by cases hb⟩
  · have hlt : g < w.heap.size := (Array.getElem?_eq_some_iff.1 hg).1
    subst hv
    refine ⟨_, cap, rfl, hc, fun hn => ⟨g, 0, rfl, hlt, fun j hj => ?_⟩, fun b hb' => by cases hb'; exact ⟨hb, hlt⟩⟩
    have := World.ownsRow.cells h (g := g) rfl j (.int .i64 (l[j]?.getD 0)) (by simp [hj])
    rw [← this]
    unfold Addr.add; split <;> simp_all
theorem Own.snoc {y : Int} (h : w.ownsRow B 3 1 v (l.length + 1) (l.map (Value.int .i64) ++ [.int .i64 y])) : Own w B v (l ++ [y]) := by
  unfold Own; simpa using h
theorem Own.lt (h : Own w B v l) : ∀ k, v.ownBlock = some k → B ≤ k ∧ k < w.heap.size := World.ownsRow.lt h
theorem grown_set (w : World) (p : Addr) (u : Value) : w.grownBy (w.setCell p u) (some p.block) :=
  ⟨rfl, rfl, rfl, by simp [World.setCell], fun k _ hne => Below.heap_setCell w p u k (fun e => hne (by rw [e]))⟩
theorem Own.far (h : Own w B v l) {p : Addr} (hp : v.ownBlock ≠ some p.block) (u : Value) : Own (w.setCell p u) B v l := h.kept (grown_set w p u) (.inr hp)
/-- A slice literal of the call's own: a block that is held whole. -/
theorem Own.of_IB {g : Nat} (h : IB w g l) (hB : B ≤ g) (hl : l.length ≤ maxLen) : Own w B (.slice (some ⟨g, 0, none⟩) l.length l.length) l :=
  ⟨by simp, .inr ⟨g, l.length, _, rfl, hB, h, Nat.le_refl _, hl, by simp, List.take_of_length_le (by simp)⟩⟩
end

/-- 'append(s, y)' of one int to a list of the call's own: at the operation, in the world behind the new cell of y. -/
theorem wpList_app1 {w : World} {ops : Array Oper} {rest : List Oper} {o : Oper} {a : Act} {Q : Exit → Act → World → Prop} (hgd : o.guard = none) (s x : Operand)
    (ho : o.op = .call { callee := .builtin .append, args := #[s, x], argTypes := #[22, 22] })
    (B : Nat) (v : Value) (l : List Int) (y : Int) (hown : Own w B v l) (hs : a.eval s = v) {H : Nat} (hx : a.eval x = .slice (some ⟨H, 0, none⟩) 1 1) (hH : w.heap.size = H)
    (hl : l.length ≤ 1000000) (hB : B ≤ w.heap.size)
    (h : ∀ v' w', Own w' B v' (l ++ [y]) → Below B w w' → w.grownBy w' v.ownBlock → (v'.ownBlock = v.ownBlock ∨ (∀ k, v'.ownBlock = some k → w.heap.size ≤ k)) → wpList Try.prog ops Q rest (a.put o.dst v') w') :
    wpList Try.prog ops Q (o :: rest) a (w.alloc (.cells #[.int .i64 y] 3)) := by
  subst hH
  obtain ⟨i0, hi, hz0, hz1, hz2⟩ := info_parts infoInt
  refine wpList_plain hgd fun K hK => ?_
  obtain ⟨v', w', hrun, h2, h3, _, h5⟩ := run_append_own_at (P := Try.prog) (w.alloc (.cells #[.int .i64 y] 3)) B 22 o.type 3 i0 (.int .i64 0) 1 8 Try.underlying22 hi hz0 hz1 hz2 rfl (by decide) v l.length (l.map (Value.int .i64)) (hown.alloc _)
    ⟨w.heap.size, 0, none⟩ 1 1 [.int .i64 y] rfl (cell_one_new _ _ _) (by simp [Value.oneCell']) (by simp only [maxLen]; omega) (by omega) (by simp; omega)
  unfold Oper.wp execOp
  simp only [ho, resolve, invoke, builtin, Sem.run_bind, Sem.run_pure, Result.andThen_ok, List.map_toArray, List.map_cons, List.map_nil, hs, hx, hrun]
  have hg : w.grownBy w' v.ownBlock := ⟨h3.os, h3.tape, h3.output, Nat.le_trans (by simp) h3.size, fun k hk hne => (h3.block k (by simp; omega) hne).trans (Below.heap_alloc _ _ _ hk)⟩
  refine hK _ _ (h v' w' (Own.snoc h2) ⟨hg.os, hg.tape, hg.output, hg.size, fun k hk => hg.block k (by omega) (fun e => by have := (hown.lt k e.symm).1; omega)⟩ hg ?_)
  rcases h5 with h5 | h5
  · exact .inl h5
  · right; intro k hk; rw [h5] at hk; cases hk; simp

/-- 'append(s, l2...)' of a list that is read. -/
theorem wp_appN {w : World} {o : Oper} {a : Act} {K : Act → World → Prop} {Q : Exit → Act → World → Prop} (s x : Operand)
    (ho : o.op = .call { callee := .builtin .append, args := #[s, x], argTypes := #[22, 22] })
    (B : Nat) (v : Value) (l : List Int) (B' : Nat) (A : Option Addr) (c : Nat) (l2 : List Int) (hown : Own w B v l) (hr : Rd w B' A l2) (hs : a.eval s = v) {n2 : Nat} (hx : a.eval x = .slice A n2 c) (hn2 : n2 = l2.length)
    (hl : l.length + l2.length ≤ 1000000000) (hB : B ≤ w.heap.size)
    (h : ∀ v' w', Own w' B v' (l ++ l2) → Below B w w' → w.grownBy w' v.ownBlock → (v'.ownBlock = v.ownBlock ∨ (∀ k, v'.ownBlock = some k → w.heap.size ≤ k)) → K (a.put o.dst v') w') : o.wp Try.prog a w K Q := by
  subst hn2
  obtain ⟨i0, hi, hz0, hz1, hz2⟩ := info_parts infoInt
  have hrunx : ∃ v' w', (Builtin.append_ #[22, 22] o.type #[v, .slice A l2.length c]).run Try.prog w = .ok v' w' ∧ Own w' B v' (l ++ l2) ∧ w.grownBy w' v.ownBlock ∧ (v'.ownBlock = v.ownBlock ∨ (∀ k, v'.ownBlock = some k → w.heap.size ≤ k)) := by
    rcases A with _ | ad
    · have h0 : l2 = [] := by
        rcases Nat.eq_zero_or_pos l2.length with h0 | h0
        · exact List.eq_nil_of_length_eq_zero h0
        · obtain ⟨b, off, e, _⟩ := hr h0; cases e
      subst h0
      refine ⟨v, w, ?_, by simpa using hown, World.grownBy.refl w _, .inl rfl⟩
      rcases hown.2 with ⟨rfl, h0⟩ | ⟨g, cap, cur, rfl, _, _, hnc, _⟩
      · simp [Builtin.append_, run_underlying Try.underlying22, sizeOf, typeInfo, hi, Builtin.lenOf, Builtin.firstCells]
      · simp [Builtin.append_, run_underlying Try.underlying22, sizeOf, typeInfo, hi, Builtin.lenOf, Builtin.firstCells, hnc, storeCells]
    · have hcells : ∀ j u, (l2.map (Value.int .i64))[j]? = some u → w.cell? (ad.add j) = some u := by
        intro j u hu
        have hj : j < l2.length := by
          rcases Nat.lt_or_ge j l2.length with h1 | h1
          · exact h1
          · rw [List.getElem?_eq_none (by simpa using h1)] at hu; cases hu
        obtain ⟨b, off, e, _, hc⟩ := hr (by omega)
        cases e
        have h1 := hc j hj
        have h2 : (l2.map (Value.int .i64))[j]? = some (.int .i64 (l2[j]?.getD 0)) := by simp [hj]
        rw [h2] at hu; cases hu
        rw [← h1]; unfold Addr.add; split <;> simp_all
      obtain ⟨v', w', hrun, h2, h3, _, h5⟩ := run_append_own_at (P := Try.prog) w B 22 o.type 3 i0 (.int .i64 0) 1 8 Try.underlying22 hi hz0 hz1 hz2 rfl (by decide) v l.length (l.map (Value.int .i64)) hown
        ad l2.length c (l2.map (Value.int .i64)) (by simp) hcells (by simp [Value.oneCell']) (by simp only [maxLen]; omega) (by omega) hB
      exact ⟨v', w', hrun, by unfold Own; simpa using h2, h3, h5.imp id (fun h6 k hk => by rw [h6] at hk; cases hk; exact Nat.le_refl _)⟩
  obtain ⟨v', w', hrun, h2, hg, hv5⟩ := hrunx
  unfold Oper.wp execOp
  simp only [ho, resolve, invoke, builtin, Sem.run_bind, Sem.run_pure, Result.andThen_ok, List.map_toArray, List.map_cons, List.map_nil, hs, hx, hrun]
  exact h v' w' h2 ⟨hg.os, hg.tape, hg.output, hg.size, fun k hk => hg.block k (by omega) (fun e => by have := (hown.lt k e.symm).1; omega)⟩ hg hv5
theorem wpList_appN {w : World} {ops : Array Oper} {rest : List Oper} {o : Oper} {a : Act} {Q : Exit → Act → World → Prop} (hgd : o.guard = none) (s x : Operand)
    (ho : o.op = .call { callee := .builtin .append, args := #[s, x], argTypes := #[22, 22] })
    (B : Nat) (v : Value) (l : List Int) (B' : Nat) (A : Option Addr) (c : Nat) (l2 : List Int) (hown : Own w B v l) (hr : Rd w B' A l2) (hs : a.eval s = v) {n2 : Nat} (hx : a.eval x = .slice A n2 c) (hn2 : n2 = l2.length)
    (hl : l.length + l2.length ≤ 1000000000) (hB : B ≤ w.heap.size)
    (h : ∀ v' w', Own w' B v' (l ++ l2) → Below B w w' → w.grownBy w' v.ownBlock → (v'.ownBlock = v.ownBlock ∨ (∀ k, v'.ownBlock = some k → w.heap.size ≤ k)) → wpList Try.prog ops Q rest (a.put o.dst v') w') :
    wpList Try.prog ops Q (o :: rest) a w :=
  wpList_plain hgd fun _ hK => wp_appN s x ho B v l B' A c l2 hown hr hs hx hn2 hl hB fun v' w' h2 h3 h4 h5 => hK _ _ (h v' w' h2 h3 h4 h5)
theorem step_appN {w : World} {ops : Array Oper} {o : Oper} {a : Act} {K : Act → World → Prop} {Q : Exit → Act → World → Prop} {E : Prop} (hgd : o.guard = none) (s x : Operand)
    (ho : o.op = .call { callee := .builtin .append, args := #[s, x], argTypes := #[22, 22] })
    (B : Nat) (v : Value) (l : List Int) (B' : Nat) (A : Option Addr) (c : Nat) (l2 : List Int) (hown : Own w B v l) (hr : Rd w B' A l2) (hs : a.eval s = v) {n2 : Nat} (hx : a.eval x = .slice A n2 c) (hn2 : n2 = l2.length)
    (hl : l.length + l2.length ≤ 1000000000) (hB : B ≤ w.heap.size)
    (h : ∀ v' w', Own w' B v' (l ++ l2) → Below B w w' → w.grownBy w' v.ownBlock → (v'.ownBlock = v.ownBlock ∨ (∀ k, v'.ownBlock = some k → w.heap.size ≤ k)) → K (a.put o.dst v') w') :
    if Region.wanted o (yielded ops a.tmps) = true then Oper.wp Try.prog o a w K Q else E := by
  have hw : Region.wanted o (yielded ops a.tmps) = true := by simp [Region.wanted, hgd]
  rw [if_pos hw]
  exact wp_appN s x ho B v l B' A c l2 hown hr hs hx hn2 hl hB h

/-- What a call that appends a list of its own hands back. -/
def GivesA (B : Nat) (l : List Int) (w : World) (e : Ending) (w' : World) : Prop :=
  ∃ v, e = .returned v ∧ Own w' B v l ∧ Below B w w'
end Go.Proofs.Ytnbkmkeiophjoaa
