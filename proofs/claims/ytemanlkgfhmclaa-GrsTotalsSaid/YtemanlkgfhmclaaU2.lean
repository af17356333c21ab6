/- Words for memory: lists of limbs. Printed by mku2.py from XP2. -/
import Derived.Test.YtemanlkgfhmclaaP2
import Derived.Test.YtemanlkgfhmclaaNatL
namespace Go.Proofs.Ytemanlkgfhmclaa.U
open Go.RowKit Cw
/-- A limb as a value. -/
abbrev uV (x : Nat) : Value := .int .u32 (x : Int)

/-- A slice value at address A (nil if the list is empty and A is none) reads as the list l, below block B. -/
def Rd (w : World) (B : Nat) (A : Option Addr) (l : List Nat) : Prop :=
  0 < l.length → ∃ b off, A = some ⟨b, off, none⟩ ∧ b < B ∧ ∀ j, j < l.length → w.cell? ⟨b, off + j, none⟩ = some (.int .u32 ((l[j]?.getD 0 : Nat) : Int))
/-- Block g holds just the list l. -/
def IB (w : World) (g : Nat) (l : List Nat) : Prop := w.heap[g]? = some (.cells (l.map uV).toArray 64 (0, 0))

section
variable {w w' : World} {B B' g : Nat} {A : Option Addr} {l : List Nat}
theorem Rd.nil : Rd w B A [] := fun h => absurd h (by simp)
theorem Rd.at_ {k : Nat} (h : Rd w B A l) (hk : k < l.length) : ∃ b off, A = some ⟨b, off, none⟩ ∧ b < B ∧ w.cell? ⟨b, off + k, none⟩ = some (.int .u32 ((l[k]?.getD 0 : Nat) : Int)) := by
  obtain ⟨b, off, e, hb, hc⟩ := h (by omega)
  exact ⟨b, off, e, hb, hc k hk⟩
theorem Rd.keep (h : Rd w B A l) (hk : ∀ p : Addr, p.block < B → w'.cell? p = w.cell? p) : Rd w' B A l := fun hn => by
  obtain ⟨b, off, e, hb, hc⟩ := h hn
  exact ⟨b, off, e, hb, fun j hj => (hk ⟨b, off + j, none⟩ hb).trans (hc j hj)⟩
theorem Rd.more (h : Rd w B A l) (hB : B ≤ B') : Rd w B' A l := fun hn => by
  obtain ⟨b, off, e, hb, hc⟩ := h hn
  exact ⟨b, off, e, by omega, hc⟩
theorem Rd.below (h : Rd w B A l) (hb : Below B w w') : Rd w' B A l := h.keep fun _ hp => hb.cell hp
theorem Rd.take (h : Rd w B A l) (n : Nat) : Rd w B A (l.take n) := fun hn => by
  have hl := List.length_take_le' n l
  obtain ⟨b, off, e, hb, hc⟩ := h (by omega)
  refine ⟨b, off, e, hb, fun j hj => ?_⟩
  rw [hc j (by omega), List.getElem?_take, if_pos (by simp at hj; omega)]
theorem IB.lt (h : IB w g l) : g < w.heap.size := by
  rcases Nat.lt_or_ge g w.heap.size with hlt | hge
  · exact hlt
  · unfold IB at h; rw [Array.getElem?_eq_none hge] at h; cases h
theorem IB.cell (h : IB w g l) {i : Nat} (hi : i < l.length) : w.cell? ⟨g, i, none⟩ = some (.int .u32 ((l[i]?.getD 0 : Nat) : Int)) := by
  rw [cell_of_row w g i _ _ (0, 0) h]
  simp [hi]
theorem IB.frozen (h : IB w g l) (i : Nat) : w.frozen? ⟨g, i, none⟩ = false := by
  unfold IB at h
  simp [World.frozen?, h]
theorem IB.rd (h : IB w g l) : Rd w w.heap.size (some ⟨g, 0, none⟩) l := fun _ => ⟨g, 0, rfl, h.lt, fun j hj => by rw [Nat.zero_add]; exact h.cell hj⟩
theorem IB.new (w : World) (l : List Nat) : IB (w.alloc (.cells (l.map uV).toArray 64)) w.heap.size l := heap_alloc_new w _
theorem IB.alloc (h : IB w g l) (o : Obj) : IB (w.alloc o) g l := (Below.heap_alloc w o g h.lt).trans h
theorem IB.set_ (h : IB w g l) (i : Nat) (u : Nat) : IB (w.setCell ⟨g, i, none⟩ (.int .u32 (u : Int))) g (l.set i u) := by
  unfold IB at h ⊢
  simp [World.setCell, Array.getElem?_modify, h]
theorem IB.far (h : IB w g l) {p : Addr} (hp : g ≠ p.block) (u : Value) : IB (w.setCell p u) g l := (Below.heap_setCell w p u g hp).trans h
theorem IB.below {B : Nat} (h : IB w g l) (hb : Below B w w') (hg : g < B) : IB w' g l := (hb.block g hg).trans h
theorem IB.kept {row : Option Nat} (h : IB w g l) (hg : w.grownBy w' row) (hne : row ≠ some g) : IB w' g l := (hg.block g h.lt (fun e => hne e.symm)).trans h
theorem IB.drew (h : IB w g l) : IB w.drew g l := h
theorem IB.drewN (h : IB w g l) (n : Nat) : IB (w.drewN n) g l := h
theorem Rd.drew (h : Rd w B A l) : Rd w.drew B A l := h
theorem Rd.drewN (h : Rd w B A l) (n : Nat) : Rd (w.drewN n) B A l := h
theorem Rd.alloc (h : Rd w B A l) (hB : B ≤ w.heap.size) (o : Obj) : Rd (w.alloc o) B A l := h.below ((Below.refl _ _).alloc hB o)
theorem Rd.setCell (h : Rd w B A l) {p : Addr} (hB : B ≤ p.block) (u : Value) : Rd (w.setCell p u) B A l := h.below ((Below.refl _ _).setCell hB u)
end
theorem made_ints (n : Nat) : madeCells #[Value.int .u32 0] n = ((List.replicate n 0).map uV).toArray := by
  apply Array.ext
  · simp [madeCells]
  · intro i h1 h2
    simp [madeCells, Nat.mod_one]
theorem infoInt : (Try.prog.info? 64).map (fun i => (i.zero, i.size, i.bytes)) = some (some (.int .u32 0), 1, 4) := by kernel_rfl
theorem mk_ints {t1 : TypeId} (ht : Try.prog.underlying t1 = some (.slice 64)) (n : Nat) (h : n ≤ 70000) (w : World) : (Instr.makeSlice t1 (.int .i64 (n : Int)) (.int .i64 (n : Int))).run Try.prog w =
    .ok (.slice (some ⟨w.heap.size, 0, none⟩) n n) (w.alloc (.cells (Array.replicate n (Value.int .u32 0)) 64)) := by
  rw [show Array.replicate n (Value.int .u32 0) = ((List.replicate n 0).map uV).toArray by simp, ← made_ints]
  exact run_make_row' t1 64 (.int .u32 0) 4 ht infoInt rfl .i64 .i64 n (by omega) (by omega) w
theorem IB.newz (w : World) (n : Nat) : IB (w.alloc (.cells (Array.replicate n (Value.int .u32 0)) 64)) w.heap.size (List.replicate n 0) := by
  have h := IB.new w (List.replicate n 0)
  simpa [uV] using h
/-- What a call that makes a list of its own hands back. -/
def Gives (B : Nat) (l : List Nat) (w : World) (e : Ending) (w' : World) : Prop :=
  ∃ g, e = .returned (.slice (some ⟨g, 0, none⟩) l.length l.length) ∧ B ≤ g ∧ IB w' g l ∧ Below B w w'
/-- The value v is a slice of the call's own (or nil), from block B on, that holds the list l. -/
def Own (w : World) (B : Nat) (v : Value) (l : List Nat) : Prop := w.ownsRow B 64 1 v l.length (l.map uV)
section
variable {w w' : World} {B : Nat} {v : Value} {l : List Nat}
theorem Own.nil (w : World) (B : Nat) : Own w B (.slice none 0 0) [] := World.ownsRow_nil _ _ _ _
theorem Own.drew (h : Own w B v l) : Own w.drew B v l := h
theorem Own.kept {row : Option Nat} (h : Own w B v l) (hg : w.grownBy w' row) (hne : v.ownBlock = none ∨ v.ownBlock ≠ row) : Own w' B v l := World.ownsRow.kept h hg hne
theorem Own.below {W : Nat} (h : Own w B v l) (hb : Below W w w') (hW : w.heap.size ≤ W) : Own w' B v l :=
  h.kept (below_grown hb hW) (by cases hv : v.ownBlock <;> simp)
theorem Own.alloc (h : Own w B v l) (o : Obj) : Own (w.alloc o) B v l := World.ownsRow.alloc h o
theorem Own.form (h : Own w B v l) : ∃ A c, v = .slice A l.length c ∧ l.length ≤ c ∧ Rd w w.heap.size A l ∧ (∀ b, A = some b → B ≤ b.block ∧ b.block < w.heap.size) := by
  rcases h.2 with ⟨rfl, h0⟩ | ⟨g, cap, cur, hv, hb, hg, hc, _⟩
  · have : l = [] := List.eq_nil_of_length_eq_zero h0
    subst this
    exact ⟨none, 0, rfl, Nat.le_refl _, Rd.nil, fun b hb => by cases hb⟩
  · have hlt : g < w.heap.size := (Array.getElem?_eq_some_iff.1 hg).1
    subst hv
    refine ⟨_, cap, rfl, hc, fun hn => ⟨g, 0, rfl, hlt, fun j hj => ?_⟩, fun b hb' => by cases hb'; exact ⟨hb, hlt⟩⟩
    have := World.ownsRow.cells h (g := g) rfl j (.int .u32 ((l[j]?.getD 0 : Nat) : Int)) (by simp [hj])
    rw [← this]
    unfold Addr.add; split <;> simp_all
theorem Own.snoc {y : Nat} (h : w.ownsRow B 64 1 v (l.length + 1) (l.map uV ++ [.int .u32 (y : Int)])) : Own w B v (l ++ [y]) := by
  unfold Own; simpa using h
theorem Own.lt (h : Own w B v l) : ∀ k, v.ownBlock = some k → B ≤ k ∧ k < w.heap.size := World.ownsRow.lt h
theorem Own.far (h : Own w B v l) {p : Addr} (hp : v.ownBlock ≠ some p.block) (u : Value) : Own (w.setCell p u) B v l := h.kept (grown_set w p u) (.inr hp)
/-- A slice literal of the call's own: a block that is held whole. -/
theorem Own.of_IB {g : Nat} (h : IB w g l) (hB : B ≤ g) (hl : l.length ≤ maxLen) : Own w B (.slice (some ⟨g, 0, none⟩) l.length l.length) l :=
  ⟨by simp, .inr ⟨g, l.length, _, rfl, hB, h, Nat.le_refl _, hl, by simp, List.take_of_length_le (by simp)⟩⟩
end

/-- 'append(s, y)' of one int to a list of the call's own: at the operation, in the world behind the new cell of y. -/
theorem wpList_app1 {w : World} {ops : Array Oper} {rest : List Oper} {o : Oper} {a : Act} {Q : Exit → Act → World → Prop} (hgd : o.guard = none) {t1 : TypeId} (ht : Try.prog.underlying t1 = some (.slice 64)) (s x : Operand)
    (ho : o.op = .call { callee := .builtin .append, args := #[s, x], argTypes := #[t1, t1] })
    (B : Nat) (v : Value) (l : List Nat) (y : Nat) (hown : Own w B v l) (hs : a.eval s = v) {H : Nat} (hx : a.eval x = .slice (some ⟨H, 0, none⟩) 1 1) (hH : w.heap.size = H)
    (hl : l.length ≤ 1000000) (hB : B ≤ w.heap.size)
    (h : ∀ v' w', Own w' B v' (l ++ [y]) → Below B w w' → w.grownBy w' v.ownBlock → (v'.ownBlock = v.ownBlock ∨ (∀ k, v'.ownBlock = some k → w.heap.size ≤ k)) → wpList Try.prog ops Q rest (a.put o.dst v') w') :
    wpList Try.prog ops Q (o :: rest) a (w.alloc (.cells #[.int .u32 (y : Int)] 64)) := by
  subst hH
  obtain ⟨i0, hi, hz0, hz1, hz2⟩ := info_parts infoInt
  refine wpList_plain hgd fun K hK => ?_
  obtain ⟨v', w', hrun, h2, h3, _, h5⟩ := run_append_own_at (P := Try.prog) (w.alloc (.cells #[.int .u32 (y : Int)] 64)) B t1 o.type 64 i0 (.int .u32 0) 1 4 ht hi hz0 hz1 hz2 rfl (by decide) v l.length (l.map uV) (hown.alloc _)
    ⟨w.heap.size, 0, none⟩ 1 1 [.int .u32 (y : Int)] rfl (cell_one_new _ _ _) (by simp [Value.oneCell']) (by simp only [maxLen]; omega) (by omega) (by simp; omega)
  unfold Oper.wp execOp
  simp only [ho, resolve, invoke, builtin, Sem.run_bind, Sem.run_pure, Result.andThen_ok, List.map_toArray, List.map_cons, List.map_nil, hs, hx, hrun]
  have hg : w.grownBy w' v.ownBlock := ⟨h3.os, h3.tape, h3.output, Nat.le_trans (by simp) h3.size, fun k hk hne => (h3.block k (by simp; omega) hne).trans (Below.heap_alloc _ _ _ hk)⟩
  refine hK _ _ (h v' w' (Own.snoc h2) ⟨hg.os, hg.tape, hg.output, hg.size, fun k hk => hg.block k (by omega) (fun e => by have := (hown.lt k e.symm).1; omega)⟩ hg ?_)
  rcases h5 with h5 | h5
  · exact .inl h5
  · right; intro k hk; rw [h5] at hk; cases hk; simp

/-- 'append(s, l2...)' of a list that is read. -/
theorem wp_appN {w : World} {o : Oper} {a : Act} {K : Act → World → Prop} {Q : Exit → Act → World → Prop} {t1 : TypeId} (ht : Try.prog.underlying t1 = some (.slice 64)) (s x : Operand)
    (ho : o.op = .call { callee := .builtin .append, args := #[s, x], argTypes := #[t1, t1] })
    (B : Nat) (v : Value) (l : List Nat) (B' : Nat) (A : Option Addr) (c : Nat) (l2 : List Nat) (hown : Own w B v l) (hr : Rd w B' A l2) (hs : a.eval s = v) {n2 : Nat} (hx : a.eval x = .slice A n2 c) (hn2 : n2 = l2.length)
    (hl : l.length + l2.length ≤ 1000000000) (hB : B ≤ w.heap.size)
    (h : ∀ v' w', Own w' B v' (l ++ l2) → Below B w w' → w.grownBy w' v.ownBlock → (v'.ownBlock = v.ownBlock ∨ (∀ k, v'.ownBlock = some k → w.heap.size ≤ k)) → K (a.put o.dst v') w') : o.wp Try.prog a w K Q := by
  subst hn2
  obtain ⟨i0, hi, hz0, hz1, hz2⟩ := info_parts infoInt
  have hrunx : ∃ v' w', (Builtin.append_ #[t1, t1] o.type #[v, .slice A l2.length c]).run Try.prog w = .ok v' w' ∧ Own w' B v' (l ++ l2) ∧ w.grownBy w' v.ownBlock ∧ (v'.ownBlock = v.ownBlock ∨ (∀ k, v'.ownBlock = some k → w.heap.size ≤ k)) := by
    rcases A with _ | ad
    · have h0 : l2 = [] := by
        rcases Nat.eq_zero_or_pos l2.length with h0 | h0
        · exact List.eq_nil_of_length_eq_zero h0
        · obtain ⟨b, off, e, _⟩ := hr h0; cases e
      subst h0
      refine ⟨v, w, ?_, by simpa using hown, World.grownBy.refl w _, .inl rfl⟩
      rcases hown.2 with ⟨rfl, h0⟩ | ⟨g, cap, cur, rfl, _, _, hnc, _⟩
      · simp [Builtin.append_, run_underlying ht, sizeOf, typeInfo, hi, Builtin.lenOf, Builtin.firstCells]
      · simp [Builtin.append_, run_underlying ht, sizeOf, typeInfo, hi, Builtin.lenOf, Builtin.firstCells, hnc, storeCells]
    · have hcells : ∀ j u, (l2.map uV)[j]? = some u → w.cell? (ad.add j) = some u := by
        intro j u hu
        have hj : j < l2.length := by
          rcases Nat.lt_or_ge j l2.length with h1 | h1
          · exact h1
          · rw [List.getElem?_eq_none (by simpa using h1)] at hu; cases hu
        obtain ⟨b, off, e, _, hc⟩ := hr (by omega)
        cases e
        have h1 := hc j hj
        have h2 : (l2.map uV)[j]? = some (.int .u32 ((l2[j]?.getD 0 : Nat) : Int)) := by simp [hj]
        rw [h2] at hu; cases hu
        rw [← h1]; unfold Addr.add; split <;> simp_all
      obtain ⟨v', w', hrun, h2, h3, _, h5⟩ := run_append_own_at (P := Try.prog) w B t1 o.type 64 i0 (.int .u32 0) 1 4 ht hi hz0 hz1 hz2 rfl (by decide) v l.length (l.map uV) hown
        ad l2.length c (l2.map uV) (by simp) hcells (by simp [Value.oneCell']) (by simp only [maxLen]; omega) (by omega) hB
      exact ⟨v', w', hrun, by unfold Own; simpa using h2, h3, h5.imp id (fun h6 k hk => by rw [h6] at hk; cases hk; exact Nat.le_refl _)⟩
  obtain ⟨v', w', hrun, h2, hg, hv5⟩ := hrunx
  unfold Oper.wp execOp
  simp only [ho, resolve, invoke, builtin, Sem.run_bind, Sem.run_pure, Result.andThen_ok, List.map_toArray, List.map_cons, List.map_nil, hs, hx, hrun]
  exact h v' w' h2 ⟨hg.os, hg.tape, hg.output, hg.size, fun k hk => hg.block k (by omega) (fun e => by have := (hown.lt k e.symm).1; omega)⟩ hg hv5
theorem wpList_appN {w : World} {ops : Array Oper} {rest : List Oper} {o : Oper} {a : Act} {Q : Exit → Act → World → Prop} (hgd : o.guard = none) {t1 : TypeId} (ht : Try.prog.underlying t1 = some (.slice 64)) (s x : Operand)
    (ho : o.op = .call { callee := .builtin .append, args := #[s, x], argTypes := #[t1, t1] })
    (B : Nat) (v : Value) (l : List Nat) (B' : Nat) (A : Option Addr) (c : Nat) (l2 : List Nat) (hown : Own w B v l) (hr : Rd w B' A l2) (hs : a.eval s = v) {n2 : Nat} (hx : a.eval x = .slice A n2 c) (hn2 : n2 = l2.length)
    (hl : l.length + l2.length ≤ 1000000000) (hB : B ≤ w.heap.size)
    (h : ∀ v' w', Own w' B v' (l ++ l2) → Below B w w' → w.grownBy w' v.ownBlock → (v'.ownBlock = v.ownBlock ∨ (∀ k, v'.ownBlock = some k → w.heap.size ≤ k)) → wpList Try.prog ops Q rest (a.put o.dst v') w') :
    wpList Try.prog ops Q (o :: rest) a w :=
  wpList_plain hgd fun _ hK => wp_appN ht s x ho B v l B' A c l2 hown hr hs hx hn2 hl hB fun v' w' h2 h3 h4 h5 => hK _ _ (h v' w' h2 h3 h4 h5)
theorem step_appN {w : World} {ops : Array Oper} {o : Oper} {a : Act} {K : Act → World → Prop} {Q : Exit → Act → World → Prop} {E : Prop} (hgd : o.guard = none) {t1 : TypeId} (ht : Try.prog.underlying t1 = some (.slice 64)) (s x : Operand)
    (ho : o.op = .call { callee := .builtin .append, args := #[s, x], argTypes := #[t1, t1] })
    (B : Nat) (v : Value) (l : List Nat) (B' : Nat) (A : Option Addr) (c : Nat) (l2 : List Nat) (hown : Own w B v l) (hr : Rd w B' A l2) (hs : a.eval s = v) {n2 : Nat} (hx : a.eval x = .slice A n2 c) (hn2 : n2 = l2.length)
    (hl : l.length + l2.length ≤ 1000000000) (hB : B ≤ w.heap.size)
    (h : ∀ v' w', Own w' B v' (l ++ l2) → Below B w w' → w.grownBy w' v.ownBlock → (v'.ownBlock = v.ownBlock ∨ (∀ k, v'.ownBlock = some k → w.heap.size ≤ k)) → K (a.put o.dst v') w') :
    if Region.wanted o (yielded ops a.tmps) = true then Oper.wp Try.prog o a w K Q else E := by
  have hw : Region.wanted o (yielded ops a.tmps) = true := by simp [Region.wanted, hgd]
  rw [if_pos hw]
  exact wp_appN ht s x ho B v l B' A c l2 hown hr hs hx hn2 hl hB h

/-- What a call that appends a list of its own hands back. -/
def GivesA (B : Nat) (l : List Nat) (w : World) (e : Ending) (w' : World) : Prop :=
  ∃ v, e = .returned v ∧ Own w' B v l ∧ Below B w w'
end Go.Proofs.Ytemanlkgfhmclaa.U
