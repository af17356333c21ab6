/- The reference's value of a polynomial. One header appended, as a step of a region that draws its order. The program's generator matrix. Layer 18 of the program: Standard. Layer 18 of the program: copied, Dual. Layer 18 of the program: Dual. Plain law of layer 18: the weights of codewords, the dual description. No Go here. Plain law of layer 18: the dual description and its dual. No Go here. Plain law of layer 18: codewords are orthogonal to those of the dual description. No Go here. Plain law of layer 18: an affine map of the points keeps the row space. No Go here. Layer 18: Puncture of the program, Without of the reference. -/
import Derived.Test.YtakonlfojblcmaaZaP1
import Derived.Test.YtakonlfojblcmaaZaRF
import Derived.Test.YtakonlfojblcmaaZaGA
import Derived.Test.YtakonlfojblcmaaZaLA
import Derived.Test.YtakonlfojblcmaaZaMat
import Derived.Test.YtakonlfojblcmaaZaMatX
import Derived.Test.YtakonlfojblcmaaZaDot
import Derived.Test.YtakonlfojblcmaaZaGopRow
namespace Go.Proofs.Ytakonlfojblcmaa
open Go.RowKit Cw

set_option maxHeartbeats 1000000 in
theorem Eval5_any (D : Desc) (l : List Int) (x : Int) (A A1 : Option Addr) (c c1 : Nat) (w : World) (hr : Rd w w.heap.size A (modL D)) (hr1 : Rd w w.heap.size A1 l) (hl : l.length ≤ maxLen) :
    Calls Try.prog 39 #[.agg #[.int .i64 D.p, .int .i64 D.m, .slice A D.mod.length c], .slice A1 l.length c1, .int .i64 x] w fun e w' => e = .returned (.int .i64 (ci (pevI D l (eli D x)))) ∧ Below w.heap.size w w' := by
  unfold maxLen at hl
  have hM := fun y z W hr => Lib.hid (Mul_any D y z A c W hr)
  have hA := fun y z W => Lib.hid (Add_any D y z A D.mod.length c W)
  have hbx0 := Bx.new w D A D.mod.length c 24
  have hB0 : Below w.heap.size w (w.alloc (.cells #[.int .i64 D.p, .int .i64 D.m, .slice A D.mod.length c] 24)) := (Below.refl _ _).alloc (Nat.le_refl _) _
  obtain ⟨u, hu⟩ : ∃ u, u = eli D x := ⟨_, rfl⟩
  rw [← hu]
  replace hu := Lib.hid hu
  go_enter Try.func39, Try.ntmps39
  go_wp2_with (fail)
  go_loopw [9, 7, 8] (fun i o p wr => ∃ k : Nat, k ≤ l.length ∧ i = .int .i64 k ∧ o = .int .i64 (ci (rsum k fun i => eli D (l[i]?.getD 0) * pw u i)) ∧ p = .int .i64 (ci (pw u k)) ∧ Bx wr w.heap.size D A D.mod.length c ∧ Below w.heap.size w wr ∧ w.heap.size < wr.heap.size) (fun i _ _ _ => l.length - (intOf i).toNat)
  case atStart => exact ⟨0, by omega, rfl, by rw [rsum_zero, ci_zero], by rw [pw_zero, ci_one], hbx0, hB0, by simp⟩
  case round =>
    obtain ⟨k, hk, rfl, rfl, rfl, hbx, hbw, hsz⟩ := hrel
    by_cases hlt : k < l.length
    · have hk0 : (0 : Int) ≤ (k : Int) := by omega
      have hk1 : (k : Int) < (l.length : Int) := by omega
      obtain ⟨b, o, rfl, hb, hc⟩ := hr1.at_ hlt
      have hc2 := (hbw.cell (p := ⟨b, o + k, none⟩) hb).trans hc
      obtain ⟨y, hy⟩ : ∃ y, y = l[k]?.getD 0 := ⟨_, rfl⟩
      rw [← hy] at hc2
      have hM2 := fun W hr => (hM y (ci (pw u k)) W hr).out
      rw [eli_ci] at hM2
      replace hM2 := fun W hr => Lib.hid (hM2 W hr)
      have hA2 := fun W => (hA (ci (rsum k fun i => eli D (l[i]?.getD 0) * pw u i)) (ci (eli D y * pw u k)) W).out
      have hs : rsum k (fun i => eli D (l[i]?.getD 0) * pw u i) + eli D y * pw u k = rsum (k + 1) (fun i => eli D (l[i]?.getD 0) * pw u i) := by rw [rsum_succ, hy]
      rw [eli_ci, eli_ci, hs] at hA2
      replace hA2 := fun W => Lib.hid (hA2 W)
      have hM3 := fun W hr => (hM (ci (pw u k)) x W hr).out
      rw [eli_ci, ← hu.out, ← pw_succ] at hM3
      replace hM3 := fun W hr => Lib.hid (hM3 W hr)
      have hrr := (hr.below hbw).more hbw.size
      have hbo : b < wr.heap.size := Nat.lt_of_lt_of_le hb hbw.size
      have hcc : Hid (_ ∧ _ ∧ _ ∧ wr.cell? ⟨b, o + k, none⟩ = _) := Lib.hid (show _ ∧ _ ∧ _ ∧ _ from ⟨hbx.cells.1, hbx.cells.2.1, hbx.cells.2.2, hc2⟩)
      have hk4 : ∀ {W w1 : World} {v0 v1 v2 v3 : Value}, Below W.heap.size W w1 → w.heap.size < W.heap.size → b < W.heap.size → (W.cell? ⟨w.heap.size, 0, none⟩ = some v0 ∧ W.cell? ⟨w.heap.size, 1, none⟩ = some v1 ∧ W.cell? ⟨w.heap.size, 2, none⟩ = some v2 ∧ W.cell? ⟨b, o + k, none⟩ = some v3) →
          w1.cell? ⟨w.heap.size, 0, none⟩ = some v0 ∧ w1.cell? ⟨w.heap.size, 1, none⟩ = some v1 ∧ w1.cell? ⟨w.heap.size, 2, none⟩ = some v2 ∧ w1.cell? ⟨b, o + k, none⟩ = some v3 := fun h1 h2 h3 h4 =>
        have := keep3 h1 h2 ⟨h4.1, h4.2.1, h4.2.2.1⟩
        ⟨this.1, this.2.1, this.2.2, (h1.cell (p := ⟨b, o + k, none⟩) h3).trans h4.2.2.2⟩
      replace hk4 := fun {W w1 : World} {v0 v1 v2 v3 : Value} a1 a2 a3 a4 => Lib.hid (@hk4 W w1 v0 v1 v2 v3 a1 a2 a3 a4)
      clear hc hs hy hbx hc2
      go_wp2_with (fail)
      go_region_held3 (fun w' => w'.cell? ⟨w.heap.size, 0, none⟩ = some (.int .i64 D.p) ∧ w'.cell? ⟨w.heap.size, 1, none⟩ = some (.int .i64 D.m) ∧ w'.cell? ⟨w.heap.size, 2, none⟩ = some (.slice A D.mod.length c) ∧ w'.cell? ⟨b, o + k, none⟩ = some (.int .i64 y)) (first | exact hcc.out | exact hcc1.out | exact hcc2.out)
        (first
          | (go_at_call 38; (with_reducible refine (hM2 _ hrr.drew).out.mono ?_); rintro e w1 ⟨rfl, hb1⟩; have hcc1 := hk4 hb1 hsz hbo hcc.out; have hs1 : wr.heap.size ≤ w1.heap.size := hb1.size; have hbw1 := (hbw.drew).trans (hb1.mono hbw.size))
          | (go_at_call 72; (with_reducible refine (hA2 _).out.mono ?_); rintro e w2 ⟨rfl, hb2⟩; have hcc2 := hk4 hb2 (Nat.lt_of_lt_of_le hsz hs1) (Nat.lt_of_lt_of_le hbo hs1) hcc1.out; have hbw2 := hbw1.trans (hb2.mono hbw1.size)))
      have hs2 : w.heap.size < w2.heap.size := Nat.lt_of_lt_of_le (Nat.lt_of_lt_of_le hsz hs1) hb2.size
      have hbx2 : Bx w2 w.heap.size D A D.mod.length c := ⟨hcc2.out.1, hcc2.out.2.1, hcc2.out.2.2.1⟩
      have hrr2 := (hr.below hbw2).more hbw2.size
      obtain ⟨q0, q1, q2⟩ := hbx2.cells
      go_wp2_with (fail)
      (with_reducible refine (hM3 _ hrr2).out.mono ?_)
      rintro e w3 ⟨rfl, hb3⟩
      clear q0 q1 q2
      go_wp2_with (fail)
      go_roundw
      case rel => exact ⟨k + 1, by omega, by go_num, rfl, rfl, hbx2.below hb3 hs2, hbw2.trans (hb3.mono hbw2.size), Nat.lt_of_lt_of_le hs2 hb3.size⟩
      case measure => simp [intOf]; omega
    · obtain rfl : k = l.length := by omega
      go_wp2_with (fail)
      go_ret
      exact ⟨rfl, hbw⟩
end Go.Proofs.Ytakonlfojblcmaa

namespace Go.Proofs.Ytakonlfojblcmaa
open Go.RowKit Cw

/-- 'append(s, y)' of one header, in a region that draws. -/
theorem step_app1V {w : World} {ops : Array Oper} {o : Oper} {a : Act} {K : Act → World → Prop} {Q : Exit → Act → World → Prop} {E : Prop} (hgd : o.guard = none) (s x : Operand)
    (ho : o.op = .call { callee := .builtin .append, args := #[s, x], argTypes := #[52, 52] })
    (B : Nat) (v : Value) (l : List Value) (y : Value) (hy : y.oneCell' = true) (hown : OwnV w B v l) (hs : a.eval s = v) {H : Nat} (hx : a.eval x = .slice (some ⟨H, 0, none⟩) 1 1) (hH : w.heap.size = H)
    (hl : l.length ≤ 1000000) (hB : B ≤ w.heap.size)
    (h : ∀ v' w', OwnV w' B v' (l ++ [y]) → Below B w w' → w.grownBy w' v.ownBlock → (v'.ownBlock = v.ownBlock ∨ (∀ k, v'.ownBlock = some k → w.heap.size ≤ k)) → K (a.put o.dst v') w') :
    if Region.wanted o (yielded ops a.tmps) = true then Oper.wp Try.prog o a (w.alloc (.cells #[y] 22)) K Q else E := by
  have hw : Region.wanted o (yielded ops a.tmps) = true := by simp [Region.wanted, hgd]
  rw [if_pos hw]
  subst hH
  obtain ⟨i0, hi, hz0, hz1, hz2⟩ := info_parts infoInts
  obtain ⟨v', w', hrun, h2, h3, _, h5⟩ := run_append_own_at (P := Try.prog) (w.alloc (.cells #[y] 22)) B 52 o.type 22 i0 (.slice none 0 0) 1 24 Try.underlying52 hi hz0 hz1 hz2 rfl (by decide) v l.length l (World.ownsRow.alloc hown _)
    ⟨w.heap.size, 0, none⟩ 1 1 [y] rfl (cell_one_new _ _ _) (by simp [hy]) (by simp only [maxLen]; omega) (by omega) (by simp; omega)
  unfold Oper.wp execOp
  simp only [ho, resolve, invoke, builtin, Sem.run_bind, Sem.run_pure, Result.andThen_ok, List.map_toArray, List.map_cons, List.map_nil, hs, hx, hrun]
  have hg : w.grownBy w' v.ownBlock := ⟨h3.os, h3.tape, h3.output, Nat.le_trans (by simp) h3.size, fun k hk hne => (h3.block k (by simp; omega) hne).trans (Below.heap_alloc _ _ _ hk)⟩
  refine h v' w' (by unfold OwnV; rw [List.length_append]; exact h2) ⟨hg.os, hg.tape, hg.output, hg.size, fun k hk => hg.block k (by omega) (fun e => by have := (World.ownsRow.lt hown k e.symm).1; omega)⟩ hg ?_
  rcases h5 with h5 | h5
  · exact .inl h5
  · right; intro k hk; rw [h5] at hk; cases hk; simp
end Go.Proofs.Ytakonlfojblcmaa

namespace Go.Proofs.Ytakonlfojblcmaa
open Go.RowKit Cw
attribute [local go_sem] Oper.semAt_some

/-- What is changed below the base leaves an owned matrix as it is. -/
theorem OwnM.kept {w w' : World} {B n b : Nat} {v : Value} {rows : Nat → List Int} (h : OwnM w B v n rows) (hg : w.grownBy w' (some b)) (hb : b < B) : OwnM w' B v n rows := by
  obtain ⟨hs, h1, h2, h3⟩ := h
  refine ⟨hs, h1, World.ownsRow.kept h2 hg (.inr fun e => by have := (World.ownsRow.lt h2 _ e).1; omega), fun i hi => ?_⟩
  obtain ⟨Ai, ci', a1, a2, a3, a4, a5⟩ := h3 i hi
  refine ⟨Ai, ci', a1, fun hn => ?_, a3, a4, a5⟩
  obtain ⟨b2, off, e, hbl, hcell⟩ := a2 hn
  have h5 := (a5 (List.length_pos_iff.1 hn) _ e).2
  exact ⟨b2, off, e, Nat.lt_of_lt_of_le hbl hg.size, fun j hj => hg.cell (hcell j hj) fun e2 => by
    have h6 : b2 = b := by injection e2
    have h7 : B ≤ b2 := h5
    omega⟩

end Go.Proofs.Ytakonlfojblcmaa

namespace Go.Proofs.Ytakonlfojblcmaa
open Go.RowKit Cw

/-- Six cells of a block that nothing holds fast. -/
def Six (w : World) (b : Nat) (v0 v1 v2 v3 v4 v5 : Value) : Prop :=
  w.cell? ⟨b, 0, none⟩ = some v0 ∧ w.cell? ⟨b, 1, none⟩ = some v1 ∧ w.cell? ⟨b, 2, none⟩ = some v2 ∧ w.cell? ⟨b, 3, none⟩ = some v3 ∧ w.cell? ⟨b, 4, none⟩ = some v4 ∧ w.cell? ⟨b, 5, none⟩ = some v5 ∧
  w.frozen? ⟨b, 0, none⟩ = false ∧ w.frozen? ⟨b, 1, none⟩ = false ∧ w.frozen? ⟨b, 2, none⟩ = false ∧ w.frozen? ⟨b, 3, none⟩ = false ∧ w.frozen? ⟨b, 4, none⟩ = false ∧ w.frozen? ⟨b, 5, none⟩ = false
theorem Six.keep {B b : Nat} {w w1 : World} {v0 v1 v2 v3 v4 v5 : Value} (h : Six w b v0 v1 v2 v3 v4 v5) (hb : Below B w w1) (hlt : b < B) : Six w1 b v0 v1 v2 v3 v4 v5 := by
  obtain ⟨a0, a1, a2, a3, a4, a5, f0, f1, f2, f3, f4, f5⟩ := h
  exact ⟨(hb.cell (p := ⟨b, 0, none⟩) hlt).trans a0, (hb.cell (p := ⟨b, 1, none⟩) hlt).trans a1, (hb.cell (p := ⟨b, 2, none⟩) hlt).trans a2, (hb.cell (p := ⟨b, 3, none⟩) hlt).trans a3, (hb.cell (p := ⟨b, 4, none⟩) hlt).trans a4, (hb.cell (p := ⟨b, 5, none⟩) hlt).trans a5,
    (hb.frozen (p := ⟨b, 0, none⟩) hlt).trans f0, (hb.frozen (p := ⟨b, 1, none⟩) hlt).trans f1, (hb.frozen (p := ⟨b, 2, none⟩) hlt).trans f2, (hb.frozen (p := ⟨b, 3, none⟩) hlt).trans f3, (hb.frozen (p := ⟨b, 4, none⟩) hlt).trans f4, (hb.frozen (p := ⟨b, 5, none⟩) hlt).trans f5⟩
theorem Six.new (w : World) (v0 v1 v2 v3 v4 v5 : Value) (t : TypeId) : Six (w.alloc (.cells #[v0, v1, v2, v3, v4, v5] t)) w.heap.size v0 v1 v2 v3 v4 v5 := by
  obtain ⟨a0, a1, a2, a3, a4, a5⟩ := alloc6 w v0 v1 v2 v3 v4 v5 t
  exact ⟨a0, a1, a2, a3, a4, a5, World.frozen?_alloc_at _ _ _ _ rfl, World.frozen?_alloc_at _ _ _ _ rfl, World.frozen?_alloc_at _ _ _ _ rfl, World.frozen?_alloc_at _ _ _ _ rfl, World.frozen?_alloc_at _ _ _ _ rfl, World.frozen?_alloc_at _ _ _ _ rfl⟩
theorem Six.set5 {w : World} {b : Nat} {v0 v1 v2 v3 v4 v5 : Value} (h : Six w b v0 v1 v2 v3 v4 v5) (u : Value) : Six (w.setCell ⟨b, 5, none⟩ u) b v0 v1 v2 v3 v4 u := by
  obtain ⟨a0, a1, a2, a3, a4, a5, f0, f1, f2, f3, f4, f5⟩ := h
  unfold Six
  simp [go_sem, a0, a1, a2, a3, a4, a5, f0, f1, f2, f3, f4, f5]
end Go.Proofs.Ytakonlfojblcmaa

namespace Go.Proofs.Ytakonlfojblcmaa
open Go.RowKit Cw

/-- A list that is read and a list of the call's own share no block. -/
def DisA (A : Option Addr) (l : List Int) (v : Value) : Prop := l ≠ [] → ∀ a, A = some a → v.ownBlock ≠ some a.block
section
variable {A : Option Addr} {l : List Int} {v u : Value} {B : Nat} {W W' Z : World}
theorem Rd.blt (h : Rd W B A l) (hn : l ≠ []) : ∀ a, A = some a → a.block < B := fun a e => by
  obtain ⟨b, off, e2, hbl, -⟩ := h (by first | exact hn | exact List.length_pos_iff.2 hn)
  rw [e2] at e; cases e; exact hbl
theorem DisA.step (h : DisA A l v) (hr : Rd W W.heap.size A l) (hv : u.ownBlock = v.ownBlock ∨ ∀ k, u.ownBlock = some k → W.heap.size ≤ k) : DisA A l u := fun hn a e e2 => by
  rcases hv with h1 | h1
  · exact h hn a e (h1 ▸ e2)
  · have := h1 _ e2; have := hr.blt hn a e; omega
theorem Rd.grown (h : Rd W B A l) (hg : W.grownBy W' v.ownBlock) (hd : DisA A l v) (_hB : B ≤ W.heap.size) : Rd W' B A l := fun hn => by
  obtain ⟨b, off, e, hbl, hcell⟩ := h hn
  refine ⟨b, off, e, hbl, fun j hj => hg.cell (hcell j hj) fun e2 => ?_⟩
  exact hd (by first | exact hn | exact List.length_pos_iff.1 hn) _ e e2.symm
end

end Go.Proofs.Ytakonlfojblcmaa

namespace Go.Proofs.Ytakonlfojblcmaa
open Go.RowKit Cw
open Cw.CField (inv)

theorem Six.far {w : World} {b g : Nat} {v0 v1 v2 v3 v4 v5 : Value} (h : Six w b v0 v1 v2 v3 v4 v5) (hne : g ≠ b) (i : Nat) (u : Value) : Six (w.setCell ⟨g, i, none⟩ u) b v0 v1 v2 v3 v4 v5 := by
  obtain ⟨a0, a1, a2, a3, a4, a5, f0, f1, f2, f3, f4, f5⟩ := h
  have hx : ∀ j, (w.setCell ⟨g, i, none⟩ u).cell? ⟨b, j, none⟩ = w.cell? ⟨b, j, none⟩ := fun j => World.cell?_setCell_other _ _ _ _ (by intro e; injection e with e1; exact hne (by first | exact e1 | exact e1.symm))
  have hf : ∀ j, (w.setCell ⟨g, i, none⟩ u).frozen? ⟨b, j, none⟩ = w.frozen? ⟨b, j, none⟩ := fun j => by simp [go_sem]
  unfold Six
  simp only [hx, hf]
  exact ⟨a0, a1, a2, a3, a4, a5, f0, f1, f2, f3, f4, f5⟩

end Go.Proofs.Ytakonlfojblcmaa

namespace Go.Proofs.Ytakonlfojblcmaa
open Cw
open Cw.CField (inv)

theorem mem_get {l : List Int} {i : Nat} (hi : i < l.length) : l[i]?.getD 0 ∈ l := by rw [List.getElem?_eq_getElem hi]; exact List.getElem_mem _

section
variable {F : FD}
end
end Go.Proofs.Ytakonlfojblcmaa

namespace Go.Proofs.Ytakonlfojblcmaa
open Cw
open Cw.CField (inv)

section
variable {F : FD}
end
end Go.Proofs.Ytakonlfojblcmaa

namespace Go.Proofs.Ytakonlfojblcmaa
open Cw
open Cw.CField (inv)
section
variable {F : FD}
end
end Go.Proofs.Ytakonlfojblcmaa

namespace Cw
section
variable {F : Type} [CField F]
open CField (inv)
theorem Span.more {n n' m : Nat} {A : Nat → Nat → F} {v : Nat → F} (h : Span n m A v) (hn : n ≤ n') : Span n' m A v := h.trans fun _ ht => Span.row A (Nat.lt_of_lt_of_le ht hn)
end
end Cw
namespace Go.Proofs.Ytakonlfojblcmaa
open Go.RowKit Cw
end Go.Proofs.Ytakonlfojblcmaa

namespace Go.Proofs.Ytakonlfojblcmaa
open Go.RowKit Cw
attribute [local go_sem] Oper.semAt_some

/-- A description under way: its cells, its two lists. -/
def PD (W : World) (bd : Nat) (u0 u1 u2 u3 v1 v2 : Value) (l1 l2 : List Int) : Prop := Six W bd u0 u1 u2 u3 v1 v2 ∧ Own W (bd + 1) v1 l1 ∧ Own W (bd + 1) v2 l2 ∧ Dis v1 v2 ∧ bd < W.heap.size
section
variable {W W' : World} {bd : Nat} {u0 u1 u2 u3 v1 v2 u : Value} {l1 l2 l' : List Int}
theorem PD.drew (h : PD W bd u0 u1 u2 u3 v1 v2 l1 l2) : PD W.drew bd u0 u1 u2 u3 v1 v2 l1 l2 := h
theorem PD.below (h : PD W bd u0 u1 u2 u3 v1 v2 l1 l2) (hb : Below W.heap.size W W') : PD W' bd u0 u1 u2 u3 v1 v2 l1 l2 :=
  ⟨h.1.keep hb h.2.2.2.2, h.2.1.below hb (Nat.le_refl _), h.2.2.1.below hb (Nat.le_refl _), h.2.2.2.1, Nat.lt_of_lt_of_le h.2.2.2.2 hb.size⟩
end
theorem take_succ_mem {l : List Int} {k : Nat} (hk : k < l.length) (x : Int) : x ∈ l.take (k + 1) ↔ x ∈ l.take k ∨ x = l[k]?.getD 0 := by
  rw [List.take_succ_eq_append_getElem hk, List.mem_append, List.mem_singleton, List.getElem?_eq_getElem hk, Option.getD_some]
theorem take_succ_nodup {l : List Int} {k : Nat} (hk : k < l.length) (h : (l.take k).Nodup) (hn : ¬ l[k]?.getD 0 ∈ l.take k) : (l.take (k + 1)).Nodup := by
  rw [List.take_succ_eq_append_getElem hk, List.nodup_append]
  rw [List.getElem?_eq_getElem hk, Option.getD_some] at hn
  refine ⟨h, by simp, fun x hx y hy e => hn ?_⟩
  have : y = l[k] := by simpa using hy
  rw [← this, ← e]; exact hx
theorem not_nodup_take {l : List Int} {k : Nat} (hk : k < l.length) (hn : l[k]?.getD 0 ∈ l.take k) : ¬ l.Nodup := fun h => by
  have h2 : (l.take (k + 1)).Nodup := List.Pairwise.sublist (List.take_sublist _ _) h
  rw [List.take_succ_eq_append_getElem hk, List.nodup_append] at h2
  rw [List.getElem?_eq_getElem hk, Option.getD_some] at hn
  exact h2.2.2 _ hn _ (List.mem_singleton.2 rfl) rfl
theorem seen_step {l : List Int} {k x : Nat} (hk : k < l.length) (hx : l[k]?.getD 0 = (x : Int)) : (fun i : Nat => if i = x then true else decide ((i : Int) ∈ l.take k)) = fun i : Nat => decide ((i : Int) ∈ l.take (k + 1)) := funext fun i => by
  by_cases e : i = x
  · rw [if_pos e]; exact (decide_eq_true ((take_succ_mem hk _).2 (.inr (by rw [hx, e])))).symm
  · rw [if_neg e]
    by_cases h : (i : Int) ∈ l.take k
    · rw [decide_eq_true h, decide_eq_true ((take_succ_mem hk _).2 (.inl h))]
    · rw [decide_eq_false h, decide_eq_false fun h2 => ?_]
      rcases (take_succ_mem hk _).1 h2 with h3 | h3
      · exact h h3
      · rw [hx] at h3; exact e (by omega)

end Go.Proofs.Ytakonlfojblcmaa
