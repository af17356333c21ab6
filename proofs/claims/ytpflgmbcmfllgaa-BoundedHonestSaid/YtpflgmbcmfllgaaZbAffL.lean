/- The program's canonical rows: canon, open, Canonical. One header appended, as a step of a region that draws its order. The program's generator matrix. The generator's rows are independent: the rank is the dimension. Plain law of layer 18: an affine map of the points keeps the row space. No Go here. grs.Generator. -/
import Derived.Test.YtpflgmbcmfllgaaZbRG
import Derived.Test.YtpflgmbcmfllgaaZbLA
import Derived.Test.YtpflgmbcmfllgaaZbMat
import Derived.Test.YtpflgmbcmfllgaaZbMH
import Derived.Test.YtpflgmbcmfllgaaZbMatV
import Derived.Test.YtpflgmbcmfllgaaZbGrsE
import Derived.Test.YtpflgmbcmfllgaaZbFrR
namespace Go.Proofs.Ytpflgmbcmfllgaa
open Go.RowKit Cw
attribute [local go_sem] Oper.semAt_some

theorem MP.less {D : Desc} {w : World} {L g n m r : Nat} {q : Option Nat} {M : Nat → Nat → R D} (h : MP w L g n m q M) (hr : r ≤ n) : MP w L g r m q M := by
  obtain ⟨hgl, b, c, h1, h2⟩ := h
  exact ⟨hgl, b, c, fun i hi => h1 i (by omega), fun i k hi hk => h2 i k (by omega) (by omega)⟩
end Go.Proofs.Ytpflgmbcmfllgaa

namespace Go.Proofs.Ytpflgmbcmfllgaa
open Go.RowKit Cw

/-- 'append(s, y)' of one header, in a region that draws. -/
theorem step_app1V {w : World} {ops : Array Oper} {o : Oper} {a : Act} {K : Act → World → Prop} {Q : Exit → Act → World → Prop} {E : Prop} (hgd : o.guard = none) (s x : Operand)
    (ho : o.op = .call { callee := .builtin .append, args := #[s, x], argTypes := #[25, 25] })
    (B : Nat) (v : Value) (l : List Value) (y : Value) (hy : y.oneCell' = true) (hown : OwnV w B v l) (hs : a.eval s = v) {H : Nat} (hx : a.eval x = .slice (some ⟨H, 0, none⟩) 1 1) (hH : w.heap.size = H)
    (hl : l.length ≤ 1000000) (hB : B ≤ w.heap.size)
    (h : ∀ v' w', OwnV w' B v' (l ++ [y]) → Below B w w' → w.grownBy w' v.ownBlock → (v'.ownBlock = v.ownBlock ∨ (∀ k, v'.ownBlock = some k → w.heap.size ≤ k)) → K (a.put o.dst v') w') :
    if Region.wanted o (yielded ops a.tmps) = true then Oper.wp Try.prog o a (w.alloc (.cells #[y] 22)) K Q else E := by
  have hw : Region.wanted o (yielded ops a.tmps) = true := by simp [Region.wanted, hgd]
  rw [if_pos hw]
  subst hH
  obtain ⟨i0, hi, hz0, hz1, hz2⟩ := info_parts infoInts
  obtain ⟨v', w', hrun, h2, h3, _, h5⟩ := run_append_own_at (P := Try.prog) (w.alloc (.cells #[y] 22)) B 25 o.type 22 i0 (.slice none 0 0) 1 24 Try.underlying25 hi hz0 hz1 hz2 rfl (by decide) v l.length l (World.ownsRow.alloc hown _)
    ⟨w.heap.size, 0, none⟩ 1 1 [y] rfl (cell_one_new _ _ _) (by simp [hy]) (by simp only [maxLen]; omega) (by omega) (by simp; omega)
  unfold Oper.wp execOp
  simp only [ho, resolve, invoke, builtin, Sem.run_bind, Sem.run_pure, Result.andThen_ok, List.map_toArray, List.map_cons, List.map_nil, hs, hx, hrun]
  have hg : w.grownBy w' v.ownBlock := ⟨h3.os, h3.tape, h3.output, Nat.le_trans (by simp) h3.size, fun k hk hne => (h3.block k (by simp; omega) hne).trans (Below.heap_alloc _ _ _ hk)⟩
  refine h v' w' (by unfold OwnV; rw [List.length_append]; exact h2) ⟨hg.os, hg.tape, hg.output, hg.size, fun k hk => hg.block k (by omega) (fun e => by have := (World.ownsRow.lt hown k e.symm).1; omega)⟩ hg ?_
  rcases h5 with h5 | h5
  · exact .inl h5
  · right; intro k hk; rw [h5] at hk; cases hk; simp
end Go.Proofs.Ytpflgmbcmfllgaa

namespace Go.Proofs.Ytpflgmbcmfllgaa
open Go.RowKit Cw
attribute [local go_sem] Oper.semAt_some

/-- The generator's entries. -/
def gM (D : Desc) (pts mul : List Int) : Nat → Nat → R D := fun i j => eli D (mul[j]?.getD 0) * pw (eli D (pts[j]?.getD 0)) i
/-- What is changed below the base leaves an owned matrix as it is. -/
theorem OwnM.kept {w w' : World} {B n b : Nat} {v : Value} {rows : Nat → List Int} (h : OwnM w B v n rows) (hg : w.grownBy w' (some b)) (hb : b < B) : OwnM w' B v n rows := by
  obtain ⟨hs, h1, h2, h3⟩ := h
  refine ⟨hs, h1, World.ownsRow.kept h2 hg (.inr fun e => by have := (World.ownsRow.lt h2 _ e).1; omega), fun i hi => ?_⟩
  obtain ⟨Ai, ci', a1, a2, a3, a4, a5⟩ := h3 i hi
  refine ⟨Ai, ci', a1, fun hn => ?_, a3, a4, a5⟩
  obtain ⟨b2, off, e, hbl, hcell⟩ := a2 hn
  have h5 := (a5 (List.length_pos_iff.1 hn) _ e).2
  exact ⟨b2, off, e, Nat.lt_of_lt_of_le hbl hg.size, fun j hj => hg.cell (hcell j hj) fun e2 => by
    have h6 : b2 = b := by injection e2
    have h7 : B ≤ b2 := h5
    omega⟩

end Go.Proofs.Ytpflgmbcmfllgaa

namespace Go.Proofs.Ytpflgmbcmfllgaa
open Go.RowKit Cw

theorem gM_indep {F : FD} {K : Int} {pts mul : List Int} (hz : gchkD F.toDesc K pts mul = 0) : Indep K.toNat pts.length (gM F.toDesc pts mul) := fun c hc => by
  obtain ⟨-, -, hlen, hp, hm, ht, h0, hk0, hkn⟩ := gchkD_zero hz
  have key := pev_roots ((List.range pts.length).map fun i => eli F.toDesc (pts[i]?.getD 0)) ((List.range K.toNat).map c) (by simp; omega) ?_ ?_
  · intro i hi
    exact key (c i) (List.mem_map.2 ⟨i, List.mem_range.2 hi, rfl⟩)
  · refine List.pairwise_map.2 (List.Pairwise.imp_of_mem ?_ (List.nodup_range (n := pts.length)))
    intro x y hx hy hne e
    have hx' : x < pts.length := List.mem_range.1 hx
    have hy' : y < pts.length := List.mem_range.1 hy
    exact hne (nodup_get ht hx' hy' (eli_inj (elB_iff.1 hp x hx') (elB_iff.1 hp y hy') e))
  · intro x hx
    obtain ⟨j, hj, rfl⟩ := List.mem_map.1 hx
    have hj' : j < pts.length := List.mem_range.1 hj
    have h1 := elB_iff.1 hm j (by omega)
    have h2 : mul[j]?.getD 0 ≠ 0 := fun e => h0 (e ▸ mem_get (by omega))
    have h3 := hc j hj'
    rw [pev_map]
    have h4 : rsum K.toNat (fun i => c i * gM F.toDesc pts mul i j) = eli F.toDesc (mul[j]?.getD 0) * rsum K.toNat (fun i => c i * pw (eli F.toDesc (pts[j]?.getD 0)) i) := by
      rw [← rsum_mul_left]
      exact rsum_congr fun i _ => by unfold gM; exact mul_lc _ _ _
    rw [h4] at h3
    exact (mul_eq_zero h3).resolve_left (eli_ne h1 h2)
theorem gM_rank {F : FD} {K : Int} {pts mul : List Int} (hz : gchkD F.toDesc K pts mul = 0) : rkS F K.toNat pts.length (gM F.toDesc pts mul) = K.toNat := elS_rank (gM_indep hz)
end Go.Proofs.Ytpflgmbcmfllgaa

namespace Cw
section
variable {F : Type} [CField F]
open CField (inv)
theorem Span.more {n n' m : Nat} {A : Nat → Nat → F} {v : Nat → F} (h : Span n m A v) (hn : n ≤ n') : Span n' m A v := h.trans fun _ ht => Span.row A (Nat.lt_of_lt_of_le ht hn)
end
end Cw
namespace Go.Proofs.Ytpflgmbcmfllgaa
open Go.RowKit Cw
end Go.Proofs.Ytpflgmbcmfllgaa

namespace Go.Proofs.Ytpflgmbcmfllgaa
open Go.RowKit Cw
attribute [local go_sem] Oper.semAt_some

/-- The two cells of a matrix, free to be written. -/
def Two (w : World) (b : Nat) (v0 v1 : Value) : Prop := w.cell? ⟨b, 0, none⟩ = some v0 ∧ w.cell? ⟨b, 1, none⟩ = some v1 ∧ w.frozen? ⟨b, 0, none⟩ = false ∧ w.frozen? ⟨b, 1, none⟩ = false
theorem Two.keep {B b : Nat} {w w1 : World} {v0 v1 : Value} (h : Two w b v0 v1) (hb : Below B w w1) (hlt : b < B) : Two w1 b v0 v1 :=
  ⟨(hb.cell (p := ⟨b, 0, none⟩) hlt).trans h.1, (hb.cell (p := ⟨b, 1, none⟩) hlt).trans h.2.1, (hb.frozen (p := ⟨b, 0, none⟩) hlt).trans h.2.2.1, (hb.frozen (p := ⟨b, 1, none⟩) hlt).trans h.2.2.2⟩
theorem Two.new (w : World) (v0 v1 : Value) (t : TypeId) : Two (w.alloc (.cells #[v0, v1] t)) w.heap.size v0 v1 := by unfold Two; simp [go_sem]

end Go.Proofs.Ytpflgmbcmfllgaa
