/- Words for memory: slices that read as lists of ints, blocks that hold a list of ints. Words for lists that a call makes by append: what it owns, how one element or a whole list is appended. The row of a law, for laws of any arguments: what came in is opened, what goes out reads as it did. -/
import Derived.Test.YtemanlkgfhmclaaRows
import Derived.WalkKit
import Derived.WalkSpells
import Derived.WalkLawsBesides
import Derived.Lib.Hide
import Derived.Deep.OwnRows
import Derived.Deep.Draws
import Derived.RegionTactic
import Derived.BigRegion
import Derived.Deep.QuietTactic
import Derived.BigQuiet
import Derived.Maps.AppendAt
import Derived.Deep.AppendLies
import Derived.Deep.RegionLaw
import Derived.ProofKit
import Derived.OpenShut
import Derived.Lib.SmallJoins
/-! Words for memory: slices that read as lists of ints, blocks that hold a list of ints -/
namespace Go.Proofs.Ytemanlkgfhmclaa
open Go.RowKit

/-- A slice value at address A (nil if the list is empty and A is none) reads as the list l, below block B. -/
def Rd (w : World) (B : Nat) (A : Option Addr) (l : List Int) : Prop :=
  0 < l.length → ∃ b off, A = some ⟨b, off, none⟩ ∧ b < B ∧ ∀ j, j < l.length → w.cell? ⟨b, off + j, none⟩ = some (.int .i64 (l[j]?.getD 0))
/-- Block g holds just the list l. -/
def IB (w : World) (g : Nat) (l : List Int) : Prop := w.heap[g]? = some (.cells (l.map (Value.int .i64)).toArray 3 (0, 0))

section
variable {w w' : World} {B B' g : Nat} {A : Option Addr} {l : List Int}
theorem Rd.nil : Rd w B A [] := fun h => absurd h (by simp)
theorem Rd.at_ {k : Nat} (h : Rd w B A l) (hk : k < l.length) : ∃ b off, A = some ⟨b, off, none⟩ ∧ b < B ∧ w.cell? ⟨b, off + k, none⟩ = some (.int .i64 (l[k]?.getD 0)) := by
  obtain ⟨b, off, e, hb, hc⟩ := h (by omega)
  exact ⟨b, off, e, hb, hc k hk⟩
theorem Rd.keep (h : Rd w B A l) (hk : ∀ p : Addr, p.block < B → w'.cell? p = w.cell? p) : Rd w' B A l := fun hn => by
  obtain ⟨b, off, e, hb, hc⟩ := h hn
  exact ⟨b, off, e, hb, fun j hj => (hk ⟨b, off + j, none⟩ hb).trans (hc j hj)⟩
theorem Rd.more (h : Rd w B A l) (hB : B ≤ B') : Rd w B' A l := fun hn => by
  obtain ⟨b, off, e, hb, hc⟩ := h hn
  exact ⟨b, off, e, by omega, hc⟩
theorem Rd.below (h : Rd w B A l) (hb : Below B w w') : Rd w' B A l := h.keep fun _ hp => hb.cell hp
theorem Rd.take (h : Rd w B A l) (n : Nat) : Rd w B A (l.take n) := fun hn => by
  have hl := List.length_take_le' n l
  obtain ⟨b, off, e, hb, hc⟩ := h (by omega)
  refine ⟨b, off, e, hb, fun j hj => ?_⟩
  rw [hc j (by omega), List.getElem?_take, if_pos (by simp at hj; omega)]
theorem IB.lt (h : IB w g l) : g < w.heap.size := by
  rcases Nat.lt_or_ge g w.heap.size with hlt | hge
  · exact hlt
  · unfold IB at h; rw [Array.getElem?_eq_none hge] at h; cases h
theorem IB.cell (h : IB w g l) {i : Nat} (hi : i < l.length) : w.cell? ⟨g, i, none⟩ = some (.int .i64 (l[i]?.getD 0)) := by
  rw [cell_of_row w g i _ _ (0, 0) h]
  simp [hi]
theorem IB.frozen (h : IB w g l) (i : Nat) : w.frozen? ⟨g, i, none⟩ = false := by
  unfold IB at h
  simp [World.frozen?, h]
theorem IB.rd (h : IB w g l) : Rd w w.heap.size (some ⟨g, 0, none⟩) l := fun _ => ⟨g, 0, rfl, h.lt, fun j hj => by rw [Nat.zero_add]; exact h.cell hj⟩
theorem IB.new (w : World) (l : List Int) : IB (w.alloc (.cells (l.map (Value.int .i64)).toArray 3)) w.heap.size l := heap_alloc_new w _
theorem IB.alloc (h : IB w g l) (o : Obj) : IB (w.alloc o) g l := (Below.heap_alloc w o g h.lt).trans h
theorem IB.set_ (h : IB w g l) (i : Nat) (u : Int) : IB (w.setCell ⟨g, i, none⟩ (.int .i64 u)) g (l.set i u) := by
  unfold IB at h ⊢
  simp [World.setCell, Array.getElem?_modify, h]
theorem IB.far (h : IB w g l) {p : Addr} (hp : g ≠ p.block) (u : Value) : IB (w.setCell p u) g l := (Below.heap_setCell w p u g hp).trans h
theorem IB.below {B : Nat} (h : IB w g l) (hb : Below B w w') (hg : g < B) : IB w' g l := (hb.block g hg).trans h
theorem IB.kept {row : Option Nat} (h : IB w g l) (hg : w.grownBy w' row) (hne : row ≠ some g) : IB w' g l := (hg.block g h.lt (fun e => hne e.symm)).trans h
theorem IB.drew (h : IB w g l) : IB w.drew g l := h
theorem IB.drewN (h : IB w g l) (n : Nat) : IB (w.drewN n) g l := h
theorem Rd.drew (h : Rd w B A l) : Rd w.drew B A l := h
theorem Rd.drewN (h : Rd w B A l) (n : Nat) : Rd (w.drewN n) B A l := h
theorem Rd.alloc (h : Rd w B A l) (hB : B ≤ w.heap.size) (o : Obj) : Rd (w.alloc o) B A l := h.below ((Below.refl _ _).alloc hB o)
theorem Rd.setCell (h : Rd w B A l) {p : Addr} (hB : B ≤ p.block) (u : Value) : Rd (w.setCell p u) B A l := h.below ((Below.refl _ _).setCell hB u)
end
theorem below_drewN' {B : Nat} {a w : World} (h : Below B a w) (n : Nat) : Below B a (w.drewN n) := ⟨h.os, h.tape, h.output, h.size, h.block⟩
theorem bcell {B : Nat} {W w1 : World} (hb : Below B W w1) : (∀ b o, b < B → w1.cell? ⟨b, o, none⟩ = W.cell? ⟨b, o, none⟩) ∧ (∀ b o, b < B → w1.frozen? ⟨b, o, none⟩ = W.frozen? ⟨b, o, none⟩) :=
  ⟨fun b o h => hb.cell (p := ⟨b, o, none⟩) h, fun b o h => hb.frozen (p := ⟨b, o, none⟩) h⟩
theorem alloc3 (w : World) (v0 v1 v2 : Value) (t : TypeId) : (w.alloc (.cells #[v0, v1, v2] t)).cell? ⟨w.heap.size, 0, none⟩ = some v0 ∧
    (w.alloc (.cells #[v0, v1, v2] t)).cell? ⟨w.heap.size, 1, none⟩ = some v1 ∧ (w.alloc (.cells #[v0, v1, v2] t)).cell? ⟨w.heap.size, 2, none⟩ = some v2 := by
  simp [go_sem]
theorem keep3 {B b : Nat} {W w1 : World} {v0 v1 v2 : Value} (hb : Below B W w1) (hlt : b < B) (h : W.cell? ⟨b, 0, none⟩ = some v0 ∧ W.cell? ⟨b, 1, none⟩ = some v1 ∧ W.cell? ⟨b, 2, none⟩ = some v2) :
    w1.cell? ⟨b, 0, none⟩ = some v0 ∧ w1.cell? ⟨b, 1, none⟩ = some v1 ∧ w1.cell? ⟨b, 2, none⟩ = some v2 :=
  ⟨(hb.cell (p := ⟨b, 0, none⟩) hlt).trans h.1, (hb.cell (p := ⟨b, 1, none⟩) hlt).trans h.2.1, (hb.cell (p := ⟨b, 2, none⟩) hlt).trans h.2.2⟩
theorem made_ints (n : Nat) : madeCells #[Value.int .i64 0] n = ((List.replicate n (0 : Int)).map (Value.int .i64)).toArray := by
  apply Array.ext
  · simp [madeCells]
  · intro i h1 h2
    simp [madeCells, Nat.mod_one]
theorem infoInt : (Try.prog.info? 3).map (fun i => (i.zero, i.size, i.bytes)) = some (some (.int .i64 0), 1, 8) := by kernel_rfl
theorem mk_ints (n : Nat) (h : n ≤ 70000) (w : World) : (Instr.makeSlice 22 (.int .i64 (n : Int)) (.int .i64 (n : Int))).run Try.prog w =
    .ok (.slice (some ⟨w.heap.size, 0, none⟩) n n) (w.alloc (.cells (Array.replicate n (Value.int .i64 0)) 3)) := by
  rw [show Array.replicate n (Value.int .i64 0) = ((List.replicate n (0 : Int)).map (Value.int .i64)).toArray by simp, ← made_ints]
  exact run_make_row' 22 3 (.int .i64 0) 8 Try.underlying22 infoInt rfl .i64 .i64 n (by omega) (by omega) w
theorem IB.newz (w : World) (n : Nat) : IB (w.alloc (.cells (Array.replicate n (Value.int .i64 0)) 3)) w.heap.size (List.replicate n 0) := by
  have h := IB.new w (List.replicate n 0)
  simpa using h
theorem ret_int {k : IntKind} {a b : Int} (h : a = b) : Ending.returned (.int k a) = .returned (.int k b) := by rw [h]
theorem ret_bool {a b : Bool} (h : a = b) : Ending.returned (.bool a) = .returned (.bool b) := by rw [h]

/-- What a call that makes a list of its own hands back. -/
def Gives (B : Nat) (l : List Int) (w : World) (e : Ending) (w' : World) : Prop :=
  ∃ g, e = .returned (.slice (some ⟨g, 0, none⟩) l.length l.length) ∧ B ≤ g ∧ IB w' g l ∧ Below B w w'
end Go.Proofs.Ytemanlkgfhmclaa

/-! Words for lists that a call makes by append: what it owns, how one element or a whole list is appended -/
namespace Go.Proofs.Ytemanlkgfhmclaa
open Go.RowKit

/-- The value v is a slice of the call's own (or nil), from block B on, that holds the list l. -/
def Own (w : World) (B : Nat) (v : Value) (l : List Int) : Prop := w.ownsRow B 3 1 v l.length (l.map (Value.int .i64))
section
variable {w w' : World} {B : Nat} {v : Value} {l : List Int}
theorem Own.nil (w : World) (B : Nat) : Own w B (.slice none 0 0) [] := World.ownsRow_nil _ _ _ _
theorem Own.drew (h : Own w B v l) : Own w.drew B v l := h
theorem Own.kept {row : Option Nat} (h : Own w B v l) (hg : w.grownBy w' row) (hne : v.ownBlock = none ∨ v.ownBlock ≠ row) : Own w' B v l := World.ownsRow.kept h hg hne
theorem below_grown {W : Nat} {w w' : World} (h : Below W w w') (hW : w.heap.size ≤ W) : w.grownBy w' none := ⟨h.os, h.tape, h.output, h.size, fun k hk _ => h.block k (by omega)⟩
theorem Own.below {W : Nat} (h : Own w B v l) (hb : Below W w w') (hW : w.heap.size ≤ W) : Own w' B v l :=
  h.kept (below_grown hb hW) (by cases hv : v.ownBlock <;> simp)
theorem Own.alloc (h : Own w B v l) (o : Obj) : Own (w.alloc o) B v l := World.ownsRow.alloc h o
theorem Own.form (h : Own w B v l) : ∃ A c, v = .slice A l.length c ∧ l.length ≤ c ∧ Rd w w.heap.size A l ∧ (∀ b, A = some b → B ≤ b.block ∧ b.block < w.heap.size) := by
  rcases h.2 with ⟨rfl, h0⟩ | ⟨g, cap, cur, hv, hb, hg, hc, _⟩
  · have : l = [] := List.eq_nil_of_length_eq_zero h0
    subst this
    exact ⟨none, 0, rfl, Nat.le_refl _, Rd.nil, fun b hb => by cases hb⟩
  · have hlt : g < w.heap.size := (Array.getElem?_eq_some_iff.1 hg).1
    subst hv
    refine ⟨_, cap, rfl, hc, fun hn => ⟨g, 0, rfl, hlt, fun j hj => ?_⟩, fun b hb' => by cases hb'; exact ⟨hb, hlt⟩⟩
    have := World.ownsRow.cells h (g := g) rfl j (.int .i64 (l[j]?.getD 0)) (by simp [hj])
    rw [← this]
    unfold Addr.add; split <;> simp_all
theorem Own.snoc {y : Int} (h : w.ownsRow B 3 1 v (l.length + 1) (l.map (Value.int .i64) ++ [.int .i64 y])) : Own w B v (l ++ [y]) := by
  unfold Own; simpa using h
theorem Own.lt (h : Own w B v l) : ∀ k, v.ownBlock = some k → B ≤ k ∧ k < w.heap.size := World.ownsRow.lt h
theorem grown_set (w : World) (p : Addr) (u : Value) : w.grownBy (w.setCell p u) (some p.block) :=
  ⟨rfl, rfl, rfl, by simp [World.setCell], fun k _ hne => Below.heap_setCell w p u k (fun e => hne (by rw [e]))⟩
theorem Own.far (h : Own w B v l) {p : Addr} (hp : v.ownBlock ≠ some p.block) (u : Value) : Own (w.setCell p u) B v l := h.kept (grown_set w p u) (.inr hp)
/-- A slice literal of the call's own: a block that is held whole. -/
theorem Own.of_IB {g : Nat} (h : IB w g l) (hB : B ≤ g) (hl : l.length ≤ maxLen) : Own w B (.slice (some ⟨g, 0, none⟩) l.length l.length) l :=
  ⟨by simp, .inr ⟨g, l.length, _, rfl, hB, h, Nat.le_refl _, hl, by simp, List.take_of_length_le (by simp)⟩⟩
end

/-- 'append(s, y)' of one int to a list of the call's own: at the operation, in the world behind the new cell of y. -/
theorem wpList_app1 {w : World} {ops : Array Oper} {rest : List Oper} {o : Oper} {a : Act} {Q : Exit → Act → World → Prop} (hgd : o.guard = none) (s x : Operand)
    (ho : o.op = .call { callee := .builtin .append, args := #[s, x], argTypes := #[22, 22] })
    (B : Nat) (v : Value) (l : List Int) (y : Int) (hown : Own w B v l) (hs : a.eval s = v) {H : Nat} (hx : a.eval x = .slice (some ⟨H, 0, none⟩) 1 1) (hH : w.heap.size = H)
    (hl : l.length ≤ 1000000) (hB : B ≤ w.heap.size)
    (h : ∀ v' w', Own w' B v' (l ++ [y]) → Below B w w' → w.grownBy w' v.ownBlock → (v'.ownBlock = v.ownBlock ∨ (∀ k, v'.ownBlock = some k → w.heap.size ≤ k)) → wpList Try.prog ops Q rest (a.put o.dst v') w') :
    wpList Try.prog ops Q (o :: rest) a (w.alloc (.cells #[.int .i64 y] 3)) := by
  subst hH
  obtain ⟨i0, hi, hz0, hz1, hz2⟩ := info_parts infoInt
  refine wpList_plain hgd fun K hK => ?_
  obtain ⟨v', w', hrun, h2, h3, _, h5⟩ := run_append_own_at (P := Try.prog) (w.alloc (.cells #[.int .i64 y] 3)) B 22 o.type 3 i0 (.int .i64 0) 1 8 Try.underlying22 hi hz0 hz1 hz2 rfl (by decide) v l.length (l.map (Value.int .i64)) (hown.alloc _)
    ⟨w.heap.size, 0, none⟩ 1 1 [.int .i64 y] rfl (cell_one_new _ _ _) (by simp [Value.oneCell']) (by simp only [maxLen]; omega) (by omega) (by simp; omega)
  unfold Oper.wp execOp
  simp only [ho, resolve, invoke, builtin, Sem.run_bind, Sem.run_pure, Result.andThen_ok, List.map_toArray, List.map_cons, List.map_nil, hs, hx, hrun]
  have hg : w.grownBy w' v.ownBlock := ⟨h3.os, h3.tape, h3.output, Nat.le_trans (by simp) h3.size, fun k hk hne => (h3.block k (by simp; omega) hne).trans (Below.heap_alloc _ _ _ hk)⟩
  refine hK _ _ (h v' w' (Own.snoc h2) ⟨hg.os, hg.tape, hg.output, hg.size, fun k hk => hg.block k (by omega) (fun e => by have := (hown.lt k e.symm).1; omega)⟩ hg ?_)
  rcases h5 with h5 | h5
  · exact .inl h5
  · right; intro k hk; rw [h5] at hk; cases hk; simp

/-- 'append(s, l2...)' of a list that is read. -/
theorem wp_appN {w : World} {o : Oper} {a : Act} {K : Act → World → Prop} {Q : Exit → Act → World → Prop} (s x : Operand)
    (ho : o.op = .call { callee := .builtin .append, args := #[s, x], argTypes := #[22, 22] })
    (B : Nat) (v : Value) (l : List Int) (B' : Nat) (A : Option Addr) (c : Nat) (l2 : List Int) (hown : Own w B v l) (hr : Rd w B' A l2) (hs : a.eval s = v) {n2 : Nat} (hx : a.eval x = .slice A n2 c) (hn2 : n2 = l2.length)
    (hl : l.length + l2.length ≤ 1000000000) (hB : B ≤ w.heap.size)
    (h : ∀ v' w', Own w' B v' (l ++ l2) → Below B w w' → w.grownBy w' v.ownBlock → (v'.ownBlock = v.ownBlock ∨ (∀ k, v'.ownBlock = some k → w.heap.size ≤ k)) → K (a.put o.dst v') w') : o.wp Try.prog a w K Q := by
  subst hn2
  obtain ⟨i0, hi, hz0, hz1, hz2⟩ := info_parts infoInt
  have hrunx : ∃ v' w', (Builtin.append_ #[22, 22] o.type #[v, .slice A l2.length c]).run Try.prog w = .ok v' w' ∧ Own w' B v' (l ++ l2) ∧ w.grownBy w' v.ownBlock ∧ (v'.ownBlock = v.ownBlock ∨ (∀ k, v'.ownBlock = some k → w.heap.size ≤ k)) := by
    rcases A with _ | ad
    · have h0 : l2 = [] := by
        rcases Nat.eq_zero_or_pos l2.length with h0 | h0
        · exact List.eq_nil_of_length_eq_zero h0
        · obtain ⟨b, off, e, _⟩ := hr h0; cases e
      subst h0
      refine ⟨v, w, ?_, by simpa using hown, World.grownBy.refl w _, .inl rfl⟩
      rcases hown.2 with ⟨rfl, h0⟩ | ⟨g, cap, cur, rfl, _, _, hnc, _⟩
      · simp [Builtin.append_, run_underlying Try.underlying22, sizeOf, typeInfo, hi, Builtin.lenOf, Builtin.firstCells]
      · simp [Builtin.append_, run_underlying Try.underlying22, sizeOf, typeInfo, hi, Builtin.lenOf, Builtin.firstCells, hnc, storeCells]
    · have hcells : ∀ j u, (l2.map (Value.int .i64))[j]? = some u → w.cell? (ad.add j) = some u := by
        intro j u hu
        have hj : j < l2.length := by
          rcases Nat.lt_or_ge j l2.length with h1 | h1
          · exact h1
          · rw [List.getElem?_eq_none (by simpa using h1)] at hu; cases hu
        obtain ⟨b, off, e, _, hc⟩ := hr (by omega)
        cases e
        have h1 := hc j hj
        have h2 : (l2.map (Value.int .i64))[j]? = some (.int .i64 (l2[j]?.getD 0)) := by simp [hj]
        rw [h2] at hu; cases hu
        rw [← h1]; unfold Addr.add; split <;> simp_all
      obtain ⟨v', w', hrun, h2, h3, _, h5⟩ := run_append_own_at (P := Try.prog) w B 22 o.type 3 i0 (.int .i64 0) 1 8 Try.underlying22 hi hz0 hz1 hz2 rfl (by decide) v l.length (l.map (Value.int .i64)) hown
        ad l2.length c (l2.map (Value.int .i64)) (by simp) hcells (by simp [Value.oneCell']) (by simp only [maxLen]; omega) (by omega) hB
      exact ⟨v', w', hrun, by unfold Own; simpa using h2, h3, h5.imp id (fun h6 k hk => by rw [h6] at hk; cases hk; exact Nat.le_refl _)⟩
  obtain ⟨v', w', hrun, h2, hg, hv5⟩ := hrunx
  unfold Oper.wp execOp
  simp only [ho, resolve, invoke, builtin, Sem.run_bind, Sem.run_pure, Result.andThen_ok, List.map_toArray, List.map_cons, List.map_nil, hs, hx, hrun]
  exact h v' w' h2 ⟨hg.os, hg.tape, hg.output, hg.size, fun k hk => hg.block k (by omega) (fun e => by have := (hown.lt k e.symm).1; omega)⟩ hg hv5
theorem wpList_appN {w : World} {ops : Array Oper} {rest : List Oper} {o : Oper} {a : Act} {Q : Exit → Act → World → Prop} (hgd : o.guard = none) (s x : Operand)
    (ho : o.op = .call { callee := .builtin .append, args := #[s, x], argTypes := #[22, 22] })
    (B : Nat) (v : Value) (l : List Int) (B' : Nat) (A : Option Addr) (c : Nat) (l2 : List Int) (hown : Own w B v l) (hr : Rd w B' A l2) (hs : a.eval s = v) {n2 : Nat} (hx : a.eval x = .slice A n2 c) (hn2 : n2 = l2.length)
    (hl : l.length + l2.length ≤ 1000000000) (hB : B ≤ w.heap.size)
    (h : ∀ v' w', Own w' B v' (l ++ l2) → Below B w w' → w.grownBy w' v.ownBlock → (v'.ownBlock = v.ownBlock ∨ (∀ k, v'.ownBlock = some k → w.heap.size ≤ k)) → wpList Try.prog ops Q rest (a.put o.dst v') w') :
    wpList Try.prog ops Q (o :: rest) a w :=
  wpList_plain hgd fun _ hK => wp_appN s x ho B v l B' A c l2 hown hr hs hx hn2 hl hB fun v' w' h2 h3 h4 h5 => hK _ _ (h v' w' h2 h3 h4 h5)
theorem step_appN {w : World} {ops : Array Oper} {o : Oper} {a : Act} {K : Act → World → Prop} {Q : Exit → Act → World → Prop} {E : Prop} (hgd : o.guard = none) (s x : Operand)
    (ho : o.op = .call { callee := .builtin .append, args := #[s, x], argTypes := #[22, 22] })
    (B : Nat) (v : Value) (l : List Int) (B' : Nat) (A : Option Addr) (c : Nat) (l2 : List Int) (hown : Own w B v l) (hr : Rd w B' A l2) (hs : a.eval s = v) {n2 : Nat} (hx : a.eval x = .slice A n2 c) (hn2 : n2 = l2.length)
    (hl : l.length + l2.length ≤ 1000000000) (hB : B ≤ w.heap.size)
    (h : ∀ v' w', Own w' B v' (l ++ l2) → Below B w w' → w.grownBy w' v.ownBlock → (v'.ownBlock = v.ownBlock ∨ (∀ k, v'.ownBlock = some k → w.heap.size ≤ k)) → K (a.put o.dst v') w') :
    if Region.wanted o (yielded ops a.tmps) = true then Oper.wp Try.prog o a w K Q else E := by
  have hw : Region.wanted o (yielded ops a.tmps) = true := by simp [Region.wanted, hgd]
  rw [if_pos hw]
  exact wp_appN s x ho B v l B' A c l2 hown hr hs hx hn2 hl hB h

/-- What a call that appends a list of its own hands back. -/
def GivesA (B : Nat) (l : List Int) (w : World) (e : Ending) (w' : World) : Prop :=
  ∃ v, e = .returned v ∧ Own w' B v l ∧ Below B w w'
end Go.Proofs.Ytemanlkgfhmclaa

/-! The row of a law, for laws of any arguments: what came in is opened, what goes out reads as it did -/
namespace Go.Proofs.Ytemanlkgfhmclaa
open Go.ChangeShapes Go.WideShapes Go.ChangeAt Go.RowKit Go.Joins Go.Deep

theorem own_knob : ownKnob Try.prog.godebug = none := by kernel_rfl
theorem laid_out : laidOutB Try.prog = true := by kernel_rfl

section
variable {H : Type} {enc : TypeId × Value → H} {P : Program}
/-- All arguments read behind the call as they did, where nothing that was there has turned. -/
theorem all_stay (hlo : laidOutB P = true) {W W' : World} (hb : Below W.heap.size W W') (sp : Nat → Bool) : ∀ {ts : List TypeId} {vs : List Value} {ds : List (DataW H)} {ps : List MemPlace},
    (ts.all fun t => P.readableRec t && decide (t < P.types.size)) = true → DataW.TrodAll enc P W 0 (fun _ => true) true ts vs ds ps →
    (∀ x ∈ ps, x.block < W.heap.size) → (∀ x ∈ ps, sp x.block = true) → DataW.TrodAll enc P W' 0 sp true ts vs ds ps
  | [], _, _, _, _, h, _, _ => by
    obtain ⟨rfl, rfl, rfl⟩ := trodAll_nil h
    exact rfl
  | t :: ts, _, _, _, hk, h, hlt, hsp => by
    obtain ⟨v, vs1, d, ds1, a, b, rfl, rfl, rfl, h1, h2⟩ := trodAll_cons h
    simp only [List.all_cons, Bool.and_eq_true, decide_eq_true_eq] at hk
    exact ⟨a, b, WideElems.Trod_stays hlo hk.1.1 hk.1.2 h1 (fun x hx => hb.same (hlt x (by simp [hx]))) (fun x hx => hsp x (by simp [hx])),
      all_stay hlo hb sp (by simpa using hk.2) h2 (fun x hx => hlt x (by simp [hx])) (fun x hx => hsp x (by simp [hx])), rfl⟩

/-- A law's post: it said true, and what came in reads as it did. -/
theorem law_post (hlo : laidOutB P = true) {f : Func} {s : ChangeSpec} {apart fresh handsOn again : Bool} {W W' : World} {args : Array Value} {ds gs : List (DataW H)} {before : List MemPlace} {t : TypeId}
    (hW : DataW.Whole enc P f.params.toList s.vars apart W args.toList ds gs before) (hvs : s.vars = [])
    (hk : (f.params.toList.all fun t => P.readableRec t && decide (t < P.types.size)) = true)
    (hrt : f.resultTypes = #[t]) (ht : P.underlying t = some .bool)
    (hfn : s.fn H ds = { results := [.lit (.bool true)], args := ds }) (hb : Below W.heap.size W W') :
    s.post enc P f apart fresh handsOn again W args (.bool true) W' := by
  have hlt := hW.lt
  have hW0 := hW
  obtain ⟨p, q, hA, hV, rfl, hz, hn⟩ := hW
  rw [hvs] at hV
  obtain ⟨rfl, rfl⟩ := trodVars_none hV
  simp only [List.append_nil] at hlt hz hn hW0
  have hA1 := fun sp h => all_stay hlo hb sp hk hA hlt h
  have hres : ∀ (b : Nat) (sp : Nat → Bool) (hd : Bool), DataW.TrodAll enc P W' b sp hd f.resultTypes.toList ((Value.bool true).resultList f.resultTypes.size) [.lit (.bool true)] [] := fun b sp hd => by
    rw [hrt]
    exact trodAll_mk1 (shut_bool ht true)
  have hq : ∀ sp, DataW.TrodVars enc P W' sp s.vars [] [] := fun sp => by rw [hvs]; rfl
  have hap : (s.fn H (ds ++ [])) = { results := [.lit (.bool true)], args := ds } := by rw [List.append_nil]; exact hfn
  refine ⟨ds, [], p, [], p, [], hW0, ?_, ?_, ?_, World.keptBut_mono (fun _ h => h.elim) (hb.frame (fun _ => False)), fun _ => ⟨?_, [.lit (.bool true)] ++ ds, [], p, ?_, fun x hx _ => hx⟩⟩
  · rw [hap]; exact hres _ _ _
  · rw [hap]; exact hA1 _ fun x hx => by simpa using hlt x hx
  · rw [hap]; exact hq _
  · exact ok_one hrt rfl (okWide_bool_mk ht true)
  · refine ⟨p, [], by simpa using trodAll_append (hA1 _ (fun _ _ => rfl)) (hres 0 _ true), hq _, by simp, ?_, ?_⟩
    · intro b off hp
      have hin := hlt _ hp
      rw [hb.frozen hin]
      exact hz b off hp
    · intro ha; exact hn ha
end

section
variable {H : Type} {enc : TypeId × Value → H} {W : World} {base : Nat}
theorem ty_int : Try.prog.underlying 3 = some (.int .i64) := by kernel_rfl
theorem ty_ints : Try.prog.underlying 22 = some (.slice 3) := by kernel_rfl
theorem ty_bool : Try.prog.underlying 4 = some .bool := by kernel_rfl
theorem cells_int : Try.prog.cellsOf 3 = 1 := by kernel_rfl

/-- What is known of an argument of type int. -/
def I64 (x : Int) : Prop := -9223372036854775808 ≤ x ∧ x ≤ 9223372036854775807
theorem i64_of {x : Int} (h : (Lit.int .i64 x).wf = true) : I64 x := by
  simp [Lit.wf, IntKind.min, IntKind.max, IntKind.signed, IntKind.bits] at h
  exact ⟨by omega, by omega⟩
set_option maxRecDepth 100000 in
theorem arg_int {v : Value} {d : DataW H} {p : List MemPlace} (hv : Value.okWide Try.prog W .any base 3 v) (h : DataW.Trod enc Try.prog W 0 (fun _ => true) true 3 v d p) : ∃ x, v = .int .i64 x ∧ I64 x := by
  obtain ⟨a, rfl, rfl, rfl, wa⟩ := open_int ty_int hv h
  exact ⟨a, rfl, i64_of wa⟩

/-- A slice of ints: its list, its address and its room. -/
theorem cell_ints {n : Nat} {v : Value} {y : DataW H × List MemPlace} (h : DataW.trod enc Try.prog W 0 (fun _ => true) true n 22 [v] = some y) (hlt : ∀ x ∈ y.2, x.block < W.heap.size) :
    ∃ (A : Option Addr) (l : List Int) (c : Nat), v = .slice A l.length c ∧ l.length ≤ c ∧ c ≤ maxLen ∧ (∀ x ∈ l, I64 x) ∧ Rd W W.heap.size A l := by
  rcases open_ints ty_ints ty_int cells_int h with ⟨hcs, rfl⟩ | ⟨a, len, cap, zs, hcs, -, hl, hm, hz, rfl, hc, hw⟩
  · cases hcs
    exact ⟨none, [], 0, rfl, Nat.le_refl _, by simp [maxLen], by simp, Rd.nil⟩
  · cases hcs
    simp only [if_true] at hz
    have hlen : (zs.take len).length = len := by simp; omega
    refine ⟨some a, zs.take len, cap, by rw [hlen], by omega, hm, fun x hx => i64_of (hw x (List.mem_of_mem_take hx)), ?_⟩
    intro h0
    rw [hlen] at h0 ⊢
    have h1 := hc 0 (by omega)
    obtain ⟨b, off, spot⟩ := a
    have hspot : spot = none := by simpa [Addr.add] using World.cell?_spot h1
    subst hspot
    refine ⟨b, off, rfl, hlt _ (show MemPlace.cell b (off + 0) ∈ _ from List.mem_map.2 ⟨0, List.mem_range.2 (by omega), rfl⟩), fun j hj => ?_⟩
    have := hc j (by omega)
    rw [add_plain] at this
    rw [this, List.getElem?_take_of_lt hj]
    simp [List.getD_eq_getElem?_getD]
/-- A cell of type int. -/
theorem cell_int {n : Nat} {v : Value} {y : DataW H × List MemPlace} (h : DataW.trod enc Try.prog W 0 (fun _ => true) true n 3 [v] = some y) : ∃ x, v = .int .i64 x ∧ I64 x := by
  obtain ⟨a, e0, rfl, wa⟩ := DataW.trod_int ty_int h
  cases e0
  exact ⟨a, rfl, i64_of wa⟩

/-- What is known of the cells of an argument of type api.Field. -/
def FieldArg (W : World) (v : Value) : Prop := ∃ (p m : Int) (A : Option Addr) (l : List Int) (c : Nat), v = .agg #[.int .i64 p, .int .i64 m, .slice A l.length c] ∧ I64 p ∧ I64 m ∧ l.length ≤ maxLen ∧ (∀ x ∈ l, I64 x) ∧ Rd W W.heap.size A l
theorem ty_field : ∃ f0 f1 f2 : Field, Try.prog.underlying 24 = some (.struct #[f0, f1, f2]) ∧ f0.type = 3 ∧ f1.type = 3 ∧ f2.type = 22 ∧ oneCellFields Try.prog #[f0, f1, f2] = true ∧ Try.prog.cellsOf 24 = 3 :=
  ⟨_, _, _, Try.underlying24, rfl, rfl, rfl, by kernel_rfl, by kernel_rfl⟩
set_option maxRecDepth 100000 in
theorem arg_field {v : Value} {d : DataW H} {p : List MemPlace} (hv : Value.okWide Try.prog W .any base 24 v) (h : DataW.Trod enc Try.prog W 0 (fun _ => true) true 24 v d p) (hlt : ∀ x ∈ p, x.block < W.heap.size) : FieldArg W v := by
  obtain ⟨f0, f1, f2, hs, t0, t1, t2, hone, hC⟩ := ty_field
  obtain ⟨c0, c1, c2, y0, y1, y2, n, rfl, rfl, rfl, h0, h1, h2⟩ := open_agg3 hs hone hC hv h
  rw [t0] at h0; rw [t1] at h1; rw [t2] at h2
  obtain ⟨x0, rfl, i0⟩ := cell_int h0
  obtain ⟨x1, rfl, i1⟩ := cell_int h1
  obtain ⟨A, l, c, rfl, hl, hm, hi, hr⟩ := cell_ints h2 fun x hx => hlt x (by simp [hx])
  exact ⟨x0, x1, A, l, c, rfl, i0, i1, by omega, hi, hr⟩
end
end Go.Proofs.Ytemanlkgfhmclaa
