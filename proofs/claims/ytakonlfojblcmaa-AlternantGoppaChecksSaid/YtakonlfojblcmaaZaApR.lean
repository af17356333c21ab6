/- Plain: interleaved rows, product rows, bursts. No Go here. Rows of combined codes, as lists. The program's space.open, space.Check and code.Check, for any code. Two lists joined: combine.beside and the reference's Join; combine.generated; equal of equal results. A row appended to rows of the call's own; combine.Sum, Plotkin, Juxtapose: errors and codes. The program's combine.Sum, Plotkin and Juxtapose of two codes without an error. Plain: least weights of direct sums, of words (u, u + v), of products and of interleaved codes. No Go here. Plain: the words of a code by their index; the least weight as the reference finds it; ranks of combined rows. No Go here. Distance of any code: its number, and what it says if it is at least 1; results as codes without an error. Numbers of words and distances of results of chapter 14. CombineDistances: what the functions answer, with no program in sight. Plain: sums and products of three codes, in both orders of the brackets; transposed words. No Go here. 'append(rows, lines...)' on rows without room: the rows and the lines, in a new block. Layer 09 of the reference: Null. CombineAssociates: what the functions answer, with no program in sight. Codes that lie in memory above a mark; a store of a code into a box of its own. -/
import Derived.Deep.RegionHeld3
import Derived.IntWalk
import Derived.Laws.MakeOwn
import Derived.Outline
import Derived.Test.YtakonlfojblcmaaZaLA
import Derived.Test.YtakonlfojblcmaaZaNulP
import Derived.Test.YtakonlfojblcmaaZaMat
import Derived.Test.YtakonlfojblcmaaZaCodP
import Derived.Test.YtakonlfojblcmaaZaCodC
import Derived.Test.YtakonlfojblcmaaZaBxs
import Derived.Test.YtakonlfojblcmaaZaGrsQ
import Derived.Test.YtakonlfojblcmaaZaGopRow
namespace Cw
section cmb
variable {F : Type} [CField F]
open CField (inv)
/-- The word u at the positions k, s + k, 2 s + k .. -/
def iv (s k : Nat) (u : Nat → F) : Nat → F := fun t => if t % s = k then u (t / s) else 0
end cmb
section burst
variable {F : Type} [CField F] [DecidableEq F]
end burst
end Cw

namespace Go.Proofs.Ytakonlfojblcmaa
open Go.RowKit Cw
/-- u and behind it v. -/
def joinF {X : Type} (n : Nat) (u v : Nat → X) : Nat → X := fun j => if j < n then u j else v (j - n)
/-- Rows of the first matrix, then those of the second one. -/
def stackR {X : Type} (K : Nat) (A B : Nat → X) : Nat → X := fun i => if i < K then A i else B (i - K)
theorem stackR_lo {X : Type} {K i : Nat} (A B : Nat → X) (h : i < K) : stackR K A B i = A i := if_pos h
theorem stackR_hi {X : Type} {K i : Nat} (A B : Nat → X) : stackR K A B (K + i) = B i := by unfold stackR; rw [if_neg (by omega), Nat.add_sub_cancel_left]
/-- The rows of a direct sum, of the words (u, u + v), of words side by side. -/
def sumR {F : Type} [CField F] (K n : Nat) (A B : Nat → Nat → F) : Nat → Nat → F := stackR K (fun i => joinF n (A i) fun _ => 0) (fun i => joinF n (fun _ => 0) (B i))
def ploR {F : Type} [CField F] (K n : Nat) (A B : Nat → Nat → F) : Nat → Nat → F := stackR K (fun i => joinF n (A i) (A i)) (fun i => joinF n (fun _ => 0) (B i))
end Go.Proofs.Ytakonlfojblcmaa

namespace Go.Proofs.Ytakonlfojblcmaa
open Go.RowKit Cw
attribute [local go_sem] Oper.semAt_some

/-- Four cells of a block that nothing holds fast. -/
def Four (w : World) (b : Nat) (v0 v1 v2 v3 : Value) : Prop :=
  (w.cell? ⟨b, 0, none⟩ = some v0 ∧ w.cell? ⟨b, 1, none⟩ = some v1 ∧ w.cell? ⟨b, 2, none⟩ = some v2 ∧ w.cell? ⟨b, 3, none⟩ = some v3) ∧
  w.frozen? ⟨b, 0, none⟩ = false ∧ w.frozen? ⟨b, 1, none⟩ = false ∧ w.frozen? ⟨b, 2, none⟩ = false ∧ w.frozen? ⟨b, 3, none⟩ = false
theorem Four.keep {B b : Nat} {w w1 : World} {v0 v1 v2 v3 : Value} (h : Four w b v0 v1 v2 v3) (hb : Below B w w1) (hlt : b < B) : Four w1 b v0 v1 v2 v3 := by
  obtain ⟨⟨a0, a1, a2, a3⟩, f0, f1, f2, f3⟩ := h
  exact ⟨⟨(hb.cell (p := ⟨b, 0, none⟩) hlt).trans a0, (hb.cell (p := ⟨b, 1, none⟩) hlt).trans a1, (hb.cell (p := ⟨b, 2, none⟩) hlt).trans a2, (hb.cell (p := ⟨b, 3, none⟩) hlt).trans a3⟩,
    (hb.frozen (p := ⟨b, 0, none⟩) hlt).trans f0, (hb.frozen (p := ⟨b, 1, none⟩) hlt).trans f1, (hb.frozen (p := ⟨b, 2, none⟩) hlt).trans f2, (hb.frozen (p := ⟨b, 3, none⟩) hlt).trans f3⟩
theorem Four.set_ {w : World} {b : Nat} {v0 v1 v2 v3 : Value} (h : Four w b v0 v1 v2 v3) (u0 u1 u2 u3 : Value) : Four ((((w.setCell ⟨b, 0, none⟩ u0).setCell ⟨b, 1, none⟩ u1).setCell ⟨b, 2, none⟩ u2).setCell ⟨b, 3, none⟩ u3) b u0 u1 u2 u3 := by
  obtain ⟨⟨a0, a1, a2, a3⟩, f0, f1, f2, f3⟩ := h
  unfold Four
  simp [go_sem, a0, a1, a2, a3, f0, f1, f2, f3]
end Go.Proofs.Ytakonlfojblcmaa

namespace Go.Proofs.Ytakonlfojblcmaa
open Go.RowKit Cw
attribute [local go_sem] Oper.semAt_some

/-- What a function hands back that makes a code: its parts, and the error. -/
def ResC (P M N : Int) (ml : List Int) (n : Nat) (rows : Nat → List Int) (E : Int) (w : World) (e : Ending) (w' : World) : Prop :=
  ∃ A c Al cl, e = .returned (.tuple #[.agg #[.int .i64 P, .int .i64 M, .slice A ml.length c, .int .i64 N, .slice Al n cl], .int .i64 E]) ∧ Rd w' w'.heap.size A ml ∧ (∀ b, A = some b → w.heap.size ≤ b.block) ∧ RdMU w' w.heap.size w'.heap.size Al n rows ∧ Below w.heap.size w w'
theorem Five.set_ {w : World} {b : Nat} {v0 v1 v2 v3 v4 : Value} (h : Five w b v0 v1 v2 v3 v4) (u0 u1 u2 u3 u4 : Value) : Five (((((w.setCell ⟨b, 0, none⟩ u0).setCell ⟨b, 1, none⟩ u1).setCell ⟨b, 2, none⟩ u2).setCell ⟨b, 3, none⟩ u3).setCell ⟨b, 4, none⟩ u4) b u0 u1 u2 u3 u4 := by
  obtain ⟨a0, a1, a2, a3, a4, f0, f1, f2, f3, f4⟩ := h
  unfold Five
  simp [go_sem, a0, a1, a2, a3, a4, f0, f1, f2, f3, f4]

end Go.Proofs.Ytakonlfojblcmaa

namespace Go.Proofs.Ytakonlfojblcmaa
open Go.RowKit Cw
attribute [local go_sem] Oper.semAt_some

theorem OwnM.lt0 {w : World} {B n : Nat} {v : Value} {rows : Nat → List Int} (h : OwnM w B v n rows) : ∀ k, v.ownBlock = some k → k < w.heap.size := fun k e => by
  obtain ⟨hs, -, e2, -⟩ := h
  exact (World.ownsRow.lt e2 k e).2
/-- 'append(rows, row)' of a new row, in the world behind the new cell of its header. -/
theorem wpList_appRow {w : World} {ops : Array Oper} {rest : List Oper} {o : Oper} {a : Act} {Q : Exit → Act → World → Prop} (hgd : o.guard = none) (s x : Operand)
    (ho : o.op = .call { callee := .builtin .append, args := #[s, x], argTypes := #[52, 52] })
    (B : Nat) (v : Value) (n : Nat) (rows : Nat → List Int) (hown : OwnM w B v n rows) (Ak : Option Addr) (L ck : Nat) (hr : Rd w w.heap.size Ak (rows n)) (hL : (rows n).length = L) (hl : L ≤ ck) (hc : ck ≤ maxLen)
    (W0 : Nat) (hv0 : ∀ k, v.ownBlock = some k → k < W0) (hd : ∀ a, Ak = some a → W0 ≤ a.block) (hBW : B ≤ W0)
    (hs : a.eval s = v) {H : Nat} (hx : a.eval x = .slice (some ⟨H, 0, none⟩) 1 1) (hH : w.heap.size = H) (hn : n ≤ 1000000) (hB : B ≤ w.heap.size)
    (h : ∀ v' w', OwnM w' B v' (n + 1) rows → Below B w w' → wpList Try.prog ops Q rest (a.put o.dst v') w') :
    wpList Try.prog ops Q (o :: rest) a (w.alloc (.cells #[.slice Ak L ck] 22)) := by
  obtain ⟨hss, e1, e2, e3⟩ := hown
  refine wpList_app1V hgd s x ho B v hss _ rfl e2 hs hx hH (by omega) hB fun v' w' ho' hb hg hv => ?_
  refine h v' w' (OwnM.snoc e1 e3 hr (by omega) hc (fun _ a e => ⟨fun e4 => ?_, Nat.le_trans hBW (hd a e)⟩) (by rw [hL]; exact ho') hg hv) hb
  have h1 := hd a e
  have h2 := hv0 _ e4
  omega
theorem OwnM.rdm {w : World} {B n : Nat} {v : Value} {rows : Nat → List Int} (h : OwnM w B v n rows) : ∃ A c, v = .slice A n c ∧ RdM w w.heap.size A n rows := by
  obtain ⟨A, c, rfl⟩ := h.size
  refine ⟨A, c, rfl, ?_⟩
  by_cases h0 : 0 < n
  · obtain ⟨g, c', e, hg', -, -, hmb⟩ := h.mb h0
    have e2 : A = some ⟨g, 0, none⟩ := by injection e
    rw [e2]; exact (hmb.rdmU hg').rdm
  · obtain rfl : n = 0 := by omega
    exact RdM.zero
end Go.Proofs.Ytakonlfojblcmaa

namespace Go.Proofs.Ytakonlfojblcmaa
open Go.RowKit Cw
attribute [local go_sem] Oper.semAt_some

/-- The rows of a code over a field, as its elements' rows. -/
theorem VC.rdm {P M N : Int} {ml : List Int} {n : Nat} {rows : Nat → List Int} {F : FD} {m : Nat} {A : Nat → Nat → R F.toDesc} (h : VC P M N ml n rows F m A) {w : World} {B : Nat} {Ar : Option Addr} (hr : RdM w B Ar n rows) : RdM w B Ar n (rowsL F.toDesc m A) := hr.congr h.hr

end Go.Proofs.Ytakonlfojblcmaa

namespace Cw
open Go.Proofs.Ytakonlfojblcmaa (joinF)
open Go.Proofs.Ytakonlfojblcmaa (stackR sumR ploR)
section pl
variable {F : Type} [CField F]
/-- Not zero. -/
def NZ (m : Nat) (u : Nat → F) : Prop := ∃ j, j < m ∧ u j ≠ 0
theorem NZ.congr {m : Nat} {u v : Nat → F} (h : NZ m u) (e : ∀ j, j < m → u j = v j) : NZ m v := by
  obtain ⟨j, hj, hu⟩ := h
  exact ⟨j, hj, by rw [← e j hj]; exact hu⟩
end pl
section wt
variable {F : Type} [CField F] [DecidableEq F]
end wt
end Cw

namespace Go.Proofs.Ytakonlfojblcmaa
open Go.RowKit Cw

section rank
variable {F : Type} [CField F]
theorem RR.congr {m r : Nat} {p : Nat → Nat} {A B : Nat → Nat → F} (h : RR m r p A) (e : ∀ i, i < r → ∀ j, j < m → A i j = B i j) : RR m r p B where
  lt := h.lt
  mono := h.mono
  one := fun i hi => by rw [← e i hi _ (h.lt i hi)]; exact h.one i hi
  zero := fun i j hi hj hne => by rw [← e i hi _ (h.lt j hj)]; exact h.zero i j hi hj hne
  low := fun i hi j hj => by rw [← e i hi j (Nat.lt_trans hj (h.lt i hi))]; exact h.low i hi j hj
end rank

section words
variable {F : FD} {n m : Nat} {M : Nat → Nat → R F.toDesc}
end words
end Go.Proofs.Ytakonlfojblcmaa

namespace Go.Proofs.Ytakonlfojblcmaa
open Go.RowKit Cw

/-- A result is a code without an error. -/
theorem vc_res (F : FD) (hgood : Good F.p F.m (modL F.toDesc)) (n m : Nat) (M : Nat → Nat → R F.toDesc) (h1 : 1 ≤ m) (h2 : m ≤ 64) : VC F.p F.m m (modL F.toDesc) (rkS F n m M) (rowsL F.toDesc m (elS n M m).1) F m (elS n M m).1 :=
  ⟨rfl, rfl, rfl, hgood, rfl, h1, h2, fun _ _ => rfl, canl_elS F n m M⟩
end Go.Proofs.Ytakonlfojblcmaa

namespace Go.Proofs.Ytakonlfojblcmaa
open Go.RowKit Cw

section res
variable {F : FD} {n m : Nat} {M : Nat → Nat → R F.toDesc}
end res
end Go.Proofs.Ytakonlfojblcmaa

namespace Go.Proofs.Ytakonlfojblcmaa
open Go.RowKit Cw

end Go.Proofs.Ytakonlfojblcmaa

namespace Cw
open Go.Proofs.Ytakonlfojblcmaa (sumR)
section
variable {F : Type} [CField F]
theorem same_iff {n n' m : Nat} {A B : Nat → Nat → F} (h : SameSpan n n' m A B) (u : Nat → F) : Span n m A u ↔ Span n' m B u :=
  ⟨fun g => g.trans h.1, fun g => g.trans h.2⟩
end
end Cw
namespace Go.Proofs.Ytakonlfojblcmaa
open Cw
section
variable {F : FD}
end
end Go.Proofs.Ytakonlfojblcmaa

namespace Go.Proofs.Ytakonlfojblcmaa
open Go.RowKit Cw

theorem vals_of {w : World} {L B n b off : Nat} {rows : Nat → List Int} (h : ∀ i, i < n → ∃ Ai ci, w.cell? ⟨b, off + i, none⟩ = some (.slice Ai (rows i).length ci) ∧ Rd w B Ai (rows i) ∧ (rows i).length ≤ ci ∧ ci ≤ maxLen ∧ (rows i ≠ [] → ∀ a, Ai = some a → L ≤ a.block)) :
    ∃ vs : List Value, vs.length = n ∧ (∀ j v, vs[j]? = some v → w.cell? ((⟨b, off, none⟩ : Addr).add j) = some v) ∧ ∀ i, i < n → ∃ Ai ci, vs[i]? = some (.slice Ai (rows i).length ci) ∧ Rd w B Ai (rows i) ∧ (rows i).length ≤ ci ∧ ci ≤ maxLen ∧ (rows i ≠ [] → ∀ a, Ai = some a → L ≤ a.block) := by
  have hg : ∀ i, i < n → ((List.range n).map fun i => (w.cell? ⟨b, off + i, none⟩).getD undef)[i]? = some ((w.cell? ⟨b, off + i, none⟩).getD undef) := fun i hi => by
    rw [List.getElem?_map, List.getElem?_range hi]; rfl
  refine ⟨(List.range n).map fun i => (w.cell? ⟨b, off + i, none⟩).getD undef, by simp, fun j v e => ?_, fun i hi => ?_⟩
  · by_cases hj : j < n
    · obtain ⟨Ai, ci, h1, -⟩ := h j hj
      rw [hg j hj, h1] at e
      have e2 : v = .slice Ai (rows j).length ci := by simpa using e.symm
      rw [e2, show ((⟨b, off, none⟩ : Addr).add j) = ⟨b, off + j, none⟩ from by simp [Addr.add]]
      exact h1
    · rw [List.getElem?_eq_none (by simp; omega)] at e
      cases e
  · obtain ⟨Ai, ci, h1, h2⟩ := h i hi
    exact ⟨Ai, ci, by rw [hg i hi, h1]; rfl, h2⟩
/-- A new block of headers. -/
theorem rdM_new {w : World} {L k n : Nat} {rows lines : Nat → List Int} {vs us : List Value} (hL : L ≤ w.heap.size) (z : Array Value) (hv : vs.length = k) (hu : us.length = n)
    (h1 : ∀ i, i < k → ∃ Ai ci, vs[i]? = some (.slice Ai (rows i).length ci) ∧ Rd w w.heap.size Ai (rows i) ∧ (rows i).length ≤ ci ∧ ci ≤ maxLen ∧ (rows i ≠ [] → ∀ a, Ai = some a → L ≤ a.block))
    (h2 : ∀ i, i < n → ∃ Ai ci, us[i]? = some (.slice Ai (lines i).length ci) ∧ Rd w w.heap.size Ai (lines i) ∧ (lines i).length ≤ ci ∧ ci ≤ maxLen ∧ (lines i ≠ [] → ∀ a, Ai = some a → L ≤ a.block)) (t : TypeId) :
    RdMU (w.drew.alloc (.cells (vs.toArray ++ us.toArray ++ z) t)) L (w.drew.alloc (.cells (vs.toArray ++ us.toArray ++ z) t)).heap.size (some ⟨w.heap.size, 0, none⟩) (k + n) (stackR k rows lines) := fun _ => by
  obtain ⟨W, hW⟩ : ∃ W, W = w.drew.alloc (.cells (vs.toArray ++ us.toArray ++ z) t) := ⟨_, rfl⟩
  have hb : Below w.heap.size w W := by rw [hW]; exact ((Below.refl _ _).drew).alloc (Nat.le_refl _) _
  have hs : W.heap.size = w.heap.size + 1 := by rw [hW, World.size_alloc]; rfl
  have hh : W.heap[w.heap.size]? = some (.cells (vs.toArray ++ us.toArray ++ z) t (0, 0)) := by rw [hW]; exact heap_alloc_new w.drew _
  rw [← hW]
  have hc : ∀ i (v : Value), (vs ++ us)[i]? = some v → W.cell? ⟨w.heap.size, 0 + i, none⟩ = some v := fun i v e => by
    unfold World.cell?
    rw [hh]
    have hlt : i < (vs ++ us).length := (List.getElem?_eq_some_iff.1 e).1
    have e2 : (vs.toArray ++ us.toArray ++ z)[i]? = some v := by
      rw [Array.getElem?_append_left (by simpa using hlt)]
      simpa using e
    simpa using e2
  refine ⟨w.heap.size, 0, rfl, hL, by omega, fun i hi => ?_⟩
  by_cases e : i < k
  · obtain ⟨Ai, ci, g1, g2, g3⟩ := h1 i e
    rw [stackR_lo rows lines e]
    exact ⟨Ai, ci, hc i _ (by rw [List.getElem?_append_left (by omega)]; exact g1), (g2.below hb).more hb.size, g3⟩
  · obtain ⟨Ai, ci, g1, g2, g3⟩ := h2 (i - k) (by omega)
    have e2 : stackR k rows lines i = lines (i - k) := if_neg e
    rw [e2]
    exact ⟨Ai, ci, hc i _ (by rw [List.getElem?_append_right (by omega), hv]; exact g1), (g2.below hb).more hb.size, g3⟩
theorem run_appRows {w : World} (ty : TypeId) {L k n c gl : Nat} {rows lines : Nat → List Int} {Al : Option Addr} (hL : L ≤ w.heap.size) (h1 : RdMU w L w.heap.size Al k rows) (h2 : RdMU w L w.heap.size (some ⟨gl, 0, none⟩) n lines) (hn : 0 < n) (hsz : k + n ≤ 1000000) :
    ∃ c' w', (Builtin.append_ #[52, 52] ty #[.slice Al k k, .slice (some ⟨gl, 0, none⟩) n c]).run Try.prog w = .ok (.slice (some ⟨w.heap.size, 0, none⟩) (k + n) c') w' ∧ RdMU w' L w'.heap.size (some ⟨w.heap.size, 0, none⟩) (k + n) (stackR k rows lines) ∧ Below w.heap.size w w' ∧ k + n ≤ c' ∧ c' ≤ maxLen := by
  obtain ⟨i0, hi, hz0, hz1, hz2⟩ := info_parts infoInts
  have ht := Try.underlying52
  obtain ⟨bx, ox, ex, -, -, hx⟩ := h2 hn
  injection ex with ex
  injection ex with e1 e2
  subst e1 e2
  obtain ⟨us, hul, huc, huv⟩ := vals_of hx
  have hdr : ∀ (vs : List Value) (z : Array Value), Below w.heap.size w (w.drew.alloc (.cells (vs.toArray ++ us.toArray ++ z) 22)) := fun vs z => ((Below.refl _ _).drew).alloc (Nat.le_refl _) _
  cases Al with
  | none =>
    have hk : k = 0 := by
      refine Classical.byContradiction fun hne => ?_
      obtain ⟨b, off, e, -⟩ := h1 (by omega)
      cases e
    subst hk
    have hr := run_append_nil (P := Try.prog) (w := w) 52 ty 22 i0 (.slice none 0 0) ht hi hz0 ⟨gl, 0, none⟩ n c us (by rw [hz1]; omega) huc hn (by omega) (by rw [hz2]; omega)
    have hr2 : (Builtin.append_ #[52, 52] ty #[.slice none 0 0, .slice (some ⟨gl, 0, none⟩) n c]).run Try.prog w = .ok (.slice (some ⟨w.heap.size, 0, none⟩) (0 + n) (grownCap w n 0 22)) (w.drew.alloc (.cells (([] : List Value).toArray ++ us.toArray ++ Builtin.zeroCells (Value.slice none 0 0).cells (grownCap w n 0 22 - n)) 22)) := by
      rw [hr, Nat.zero_add]
      simp
    exact ⟨_, _, hr2, rdM_new (k := 0) hL _ rfl hul (fun i hi => absurd hi (Nat.not_lt_zero _)) huv _, hdr [] _, by rw [Nat.zero_add]; exact grownCap_ge w n 0 _, grownCap_le_maxLen w n 0 _ (by unfold maxLen; omega)⟩
  | some a =>
    obtain ⟨vs, hvl, hvc, hvv⟩ : ∃ vs : List Value, vs.length = k ∧ (∀ j v, vs[j]? = some v → w.cell? (a.add j) = some v) ∧ ∀ i, i < k → ∃ Ai ci, vs[i]? = some (.slice Ai (rows i).length ci) ∧ Rd w w.heap.size Ai (rows i) ∧ (rows i).length ≤ ci ∧ ci ≤ maxLen ∧ (rows i ≠ [] → ∀ a, Ai = some a → L ≤ a.block) := by
      rcases Nat.eq_zero_or_pos k with h0 | h0
      · subst h0
        exact ⟨[], rfl, fun j v e => by simp at e, fun i hi => absurd hi (Nat.not_lt_zero _)⟩
      · obtain ⟨b, off, e, -, -, hc⟩ := h1 h0
        injection e with e
        subst e
        exact vals_of hc
    have hr := run_append_grow (P := Try.prog) (w := w) 52 ty 22 i0 (.slice none 0 0) ht hi hz0 a k k vs (by rw [hz1]; omega) hvc ⟨gl, 0, none⟩ n c us (by rw [hz1]; omega) huc (by omega) (by omega) (growslice_fits (by omega) (by rw [hz2]; omega))
    exact ⟨_, _, hr, rdM_new hL _ hvl hul hvv huv _, hdr vs _, grownCap_ge w (k + n) k _, grownCap_le_maxLen w (k + n) k _ (by unfold maxLen; omega)⟩
theorem wpList_appRows {w : World} {ops : Array Oper} {rest : List Oper} {o : Oper} {a : Act} {Q : Exit → Act → World → Prop} (hgd : o.guard = none) (s x : Operand)
    (ho : o.op = .call { callee := .builtin .append, args := #[s, x], argTypes := #[52, 52] })
    {L k n c gl : Nat} {rows lines : Nat → List Int} {Al : Option Addr} (hL : L ≤ w.heap.size) (h1 : RdMU w L w.heap.size Al k rows) (h2 : RdMU w L w.heap.size (some ⟨gl, 0, none⟩) n lines) (hn : 0 < n) (hsz : k + n ≤ 1000000)
    (hs : a.eval s = .slice Al k k) (hx : a.eval x = .slice (some ⟨gl, 0, none⟩) n c)
    (h : ∀ g c' w', RdMU w' L w'.heap.size (some ⟨g, 0, none⟩) (k + n) (stackR k rows lines) → w.heap.size ≤ g → Below w.heap.size w w' → k + n ≤ c' → c' ≤ maxLen → wpList Try.prog ops Q rest (a.put o.dst (.slice (some ⟨g, 0, none⟩) (k + n) c')) w') :
    wpList Try.prog ops Q (o :: rest) a w := by
  refine wpList_plain hgd fun K hK => ?_
  obtain ⟨c', w', hrun, g1, g2, g3, g4⟩ := run_appRows o.type (c := c) hL h1 h2 hn hsz
  unfold Oper.wp execOp
  simp only [ho, resolve, invoke, builtin, Sem.run_bind, Sem.run_pure, Result.andThen_ok, List.map_toArray, List.map_cons, List.map_nil, hs, hx, hrun]
  exact hK _ _ (h _ _ _ g1 (Nat.le_refl _) g2 g3 g4)
end Go.Proofs.Ytakonlfojblcmaa

namespace Go.Proofs.Ytakonlfojblcmaa
open Go.RowKit Cw
attribute [local go_sem] Oper.semAt_some

theorem natL_len (l : List Nat) : (natL l).length = l.length := List.length_map ..
theorem natL_pv (l : List Nat) {i : Nat} (h : i < l.length) : (natL l)[i]?.getD 0 = (pvF l i : Int) := by
  unfold natL pvF
  rw [List.getElem?_map, List.getElem?_eq_getElem h]
  rfl
theorem rsum0 {F : Type} [CField F] (f : Nat → F) : rsum 0 f = 0 := rfl
theorem set_arr (m c : Nat) : (Array.replicate m (Value.int .i64 0)).setIfInBounds c (Value.int .i64 1) = (((List.replicate m (0 : Int)).set c 1).map (Value.int .i64)).toArray := by
  apply Array.ext'
  simp [List.map_set]
/-- A word of the kernel, where k of the pivots are filled, as a list. -/
noncomputable def nulL (F : FD) (m : Nat) (p : Nat → Nat) (E : Nat → Nat → R F.toDesc) (c k : Nat) : List Int := lst m fun j => ci (nulK p E c k j)
theorem nulL_zero (F : FD) {m : Nat} (p : Nat → Nat) (E : Nat → Nat → R F.toDesc) {c : Nat} : (List.replicate m (0 : Int)).set c 1 = nulL F m p E c 0 := by
  apply List.ext_getElem
  · rw [List.length_set, List.length_replicate, nulL, lst_length]
  · intro j h1 h2
    rw [List.getElem_set]
    simp only [nulL, lst, List.getElem_map, List.getElem_range, List.getElem_replicate, nulK, rsum0, sub_zero]
    by_cases e : c = j
    · rw [if_pos e, if_pos e.symm]; exact (ci_one).symm
    · rw [if_neg e, if_neg (fun h => e h.symm)]; exact (ci_zero).symm
theorem nulL_set (F : FD) {m r : Nat} {p : Nat → Nat} {E : Nat → Nat → R F.toDesc} (h : RR m r p E) {c k : Nat} (hk : k < r) (hc : p k ≠ c) : (nulL F m p E c k).set (p k) (ci (-(E k c))) = nulL F m p E c (k + 1) := by
  apply List.ext_getElem
  · rw [List.length_set, nulL, lst_length, nulL, lst_length]
  · intro j h1 h2
    rw [List.getElem_set]
    simp only [nulL, lst, List.getElem_map, List.getElem_range]
    rw [nulK_step h hk hc]
    by_cases e : p k = j
    · rw [if_pos e, if_pos e.symm]
    · rw [if_neg e, if_neg (fun g => e g.symm)]
theorem nulL_full (F : FD) {m r : Nat} {p : Nat → Nat} {E : Nat → Nat → R F.toDesc} {c t : Nat} (e : (npv p r m)[t]?.getD 0 = c) : nulL F m p E c r = rowsL F.toDesc m (nulM r m p E) t := by
  show nulL F m p E c r = rowL F.toDesc m (nulR r p E ((npv p r m)[t]?.getD 0))
  rw [e]
  rfl

end Go.Proofs.Ytakonlfojblcmaa

namespace Go.Proofs.Ytakonlfojblcmaa
open Go.RowKit Cw

theorem rdmu_congr {w : World} {L B n : Nat} {A : Option Addr} {rows rows' : Nat → List Int} (h : RdMU w L B A n rows) (he : ∀ i, i < n → rows i = rows' i) : RdMU w L B A n rows' := fun hn => by
  obtain ⟨b, off, e, h1, h2, h3⟩ := h hn
  refine ⟨b, off, e, h1, h2, fun i hi => ?_⟩
  have h4 := h3 i hi
  rw [he i hi] at h4
  exact h4
theorem ResC.congr {P M N P' M' N' E : Int} {ml ml' : List Int} {n n' : Nat} {rows rows' : Nat → List Int} (h : P = P' ∧ M = M' ∧ N = N' ∧ ml = ml' ∧ n = n' ∧ ∀ i, i < n → rows i = rows' i) {w : World} {e : Ending} {w' : World} (hr : ResC P M N ml n rows E w e w') : ResC P' M' N' ml' n' rows' E w e w' := by
  obtain ⟨rfl, rfl, rfl, rfl, rfl, h⟩ := h
  obtain ⟨A, c, Al, cl, rfl, k1, k2, k3, k4⟩ := hr
  exact ⟨A, c, Al, cl, rfl, k1, k2, rdmu_congr k3 h, k4⟩
section
variable {Pa Ma Na : Int} {mla : List Int} {na : Nat} {rowsa : Nat → List Int} {Pb Mb Nb : Int} {mlb : List Int} {nb : Nat} {rowsb : Nat → List Int} {Pd Md Nd : Int} {mld : List Int} {nd : Nat} {rowsd : Nat → List Int} {F : FD} {m1 m2 m3 : Nat} {M1 M2 M3 : Nat → Nat → R F.toDesc}
end
end Go.Proofs.Ytakonlfojblcmaa

namespace Go.Proofs.Ytakonlfojblcmaa
open Go.RowKit Cw

theorem far5 {w : World} {b : Nat} (u0 u1 u2 u3 u4 : Value) {p : Addr} (h : p.block ≠ b) : (((((w.setCell ⟨b, 0, none⟩ u0).setCell ⟨b, 1, none⟩ u1).setCell ⟨b, 2, none⟩ u2).setCell ⟨b, 3, none⟩ u3).setCell ⟨b, 4, none⟩ u4).cell? p = w.cell? p := by
  have hn : ∀ k, (⟨b, k, none⟩ : Addr).block ≠ p.block := fun k => Ne.symm h
  rw [World.cell?_setCell_far _ _ _ _ (hn 4), World.cell?_setCell_far _ _ _ _ (hn 3), World.cell?_setCell_far _ _ _ _ (hn 2), World.cell?_setCell_far _ _ _ _ (hn 1), World.cell?_setCell_far _ _ _ _ (hn 0)]
theorem Five.farS {w : World} {b b2 : Nat} {v0 v1 v2 v3 v4 : Value} (h : Five w b2 v0 v1 v2 v3 v4) (hne : b2 ≠ b) (u0 u1 u2 u3 u4 : Value) : Five (((((w.setCell ⟨b, 0, none⟩ u0).setCell ⟨b, 1, none⟩ u1).setCell ⟨b, 2, none⟩ u2).setCell ⟨b, 3, none⟩ u3).setCell ⟨b, 4, none⟩ u4) b2 v0 v1 v2 v3 v4 := by
  obtain ⟨a0, a1, a2, a3, a4, f0, f1, f2, f3, f4⟩ := h
  refine ⟨(far5 u0 u1 u2 u3 u4 hne).trans a0, (far5 u0 u1 u2 u3 u4 hne).trans a1, (far5 u0 u1 u2 u3 u4 hne).trans a2, (far5 u0 u1 u2 u3 u4 hne).trans a3, (far5 u0 u1 u2 u3 u4 hne).trans a4, ?_, ?_, ?_, ?_, ?_⟩ <;> simp [go_sem, f0, f1, f2, f3, f4]
/-- A code lies in memory above L. -/
structure InM (W : World) (L : Nat) (A : Option Addr) (ml : List Int) (Ar : Option Addr) (n : Nat) (rows : Nat → List Int) : Prop where
  rd : Rd W W.heap.size A ml
  lo : ∀ b, A = some b → L ≤ b.block
  rm : RdMU W L W.heap.size Ar n rows
section
variable {W W2 : World} {L : Nat} {A : Option Addr} {ml : List Int} {Ar : Option Addr} {n : Nat} {rows : Nat → List Int}
theorem InM.below (h : InM W L A ml Ar n rows) (hb : Below W.heap.size W W2) : InM W2 L A ml Ar n rows :=
  ⟨(h.rd.below hb).more hb.size, h.lo, (h.rm.keepU fun _ _ hp => hb.cell hp).more hb.size⟩
theorem InM.low {L' : Nat} (h : InM W L A ml Ar n rows) (hL : L' ≤ L) : InM W L' A ml Ar n rows :=
  ⟨h.rd, fun b e => Nat.le_trans hL (h.lo b e), h.rm.low hL⟩
end
end Go.Proofs.Ytakonlfojblcmaa
