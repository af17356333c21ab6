/- Words for memory: slices that read as lists of ints, blocks that hold a list of ints. -/
import Derived.Test.YtnbkmkeiophjoaaRows
import Derived.WalkKit
import Derived.WalkSpells
import Derived.WalkLawsBesides
import Derived.Lib.Hide
import Derived.Deep.OwnRows
import Derived.Deep.Draws
import Derived.RegionTactic
import Derived.BigRegion
import Derived.Deep.QuietTactic
import Derived.BigQuiet
namespace Go.Proofs.Ytnbkmkeiophjoaa
open Go.RowKit

/-- A slice value at address A (nil if the list is empty and A is none) reads as the list l, below block B. -/
def Rd (w : World) (B : Nat) (A : Option Addr) (l : List Int) : Prop :=
  0 < l.length → ∃ b off, A = some ⟨b, off, none⟩ ∧ b < B ∧ ∀ j, j < l.length → w.cell? ⟨b, off + j, none⟩ = some (.int .i64 (l[j]?.getD 0))
/-- Block g holds just the list l. -/
def IB (w : World) (g : Nat) (l : List Int) : Prop := w.heap[g]? = some (.cells (l.map (Value.int .i64)).toArray 3 (0, 0))

section
variable {w w' : World} {B B' g : Nat} {A : Option Addr} {l : List Int}
theorem Rd.nil : Rd w B A [] := fun h => absurd h (by simp)
theorem Rd.at_ {k : Nat} (h : Rd w B A l) (hk : k < l.length) : ∃ b off, A = some ⟨b, off, none⟩ ∧ b < B ∧ w.cell? ⟨b, off + k, none⟩ = some (.int .i64 (l[k]?.getD 0)) := by
  obtain ⟨b, off, e, hb, hc⟩ := h (by omega)
  exact ⟨b, off, e, hb, hc k hk⟩
theorem Rd.keep (h : Rd w B A l) (hk : ∀ p : Addr, p.block < B → w'.cell? p = w.cell? p) : Rd w' B A l := fun hn => by
  obtain ⟨b, off, e, hb, hc⟩ := h hn
  exact ⟨b, off, e, hb, fun j hj => (hk ⟨b, off + j, none⟩ hb).trans (hc j hj)⟩
theorem Rd.more (h : Rd w B A l) (hB : B ≤ B') : Rd w B' A l := fun hn => by
  obtain ⟨b, off, e, hb, hc⟩ := h hn
  exact ⟨b, off, e, by omega, hc⟩
theorem Rd.below (h : Rd w B A l) (hb : Below B w w') : Rd w' B A l := h.keep fun _ hp => hb.cell hp
theorem Rd.take (h : Rd w B A l) (n : Nat) : Rd w B A (l.take n) := fun hn => by
  have hl := List.length_take_le' n l
  obtain ⟨b, off, e, hb, hc⟩ := h (by omega)
  refine ⟨b, off, e, hb, fun j hj => ?_⟩
  rw [hc j (by omega), List.getElem?_take, if_pos (by simp at hj; omega)]
theorem IB.lt (h : IB w g l) : g < w.heap.size := by
  rcases Nat.lt_or_ge g w.heap.size with hlt | hge
  · exact hlt
  · unfold IB at h; rw [Array.getElem?_eq_none hge] at h; cases h
theorem IB.cell (h : IB w g l) {i : Nat} (hi : i < l.length) : w.cell? ⟨g, i, none⟩ = some (.int .i64 (l[i]?.getD 0)) := by
  rw [cell_of_row w g i _ _ (0, 0) h]
  simp [hi]
theorem IB.frozen (h : IB w g l) (i : Nat) : w.frozen? ⟨g, i, none⟩ = false := by
  unfold IB at h
  simp [World.frozen?, h]
theorem IB.rd (h : IB w g l) : Rd w w.heap.size (some ⟨g, 0, none⟩) l := fun _ => ⟨g, 0, rfl, h.lt, fun j hj => by rw [Nat.zero_add]; exact h.cell hj⟩
theorem IB.new (w : World) (l : List Int) : IB (w.alloc (.cells (l.map (Value.int .i64)).toArray 3)) w.heap.size l := heap_alloc_new w _
theorem IB.alloc (h : IB w g l) (o : Obj) : IB (w.alloc o) g l := (Below.heap_alloc w o g h.lt).trans h
theorem IB.set_ (h : IB w g l) (i : Nat) (u : Int) : IB (w.setCell ⟨g, i, none⟩ (.int .i64 u)) g (l.set i u) := by
  unfold IB at h ⊢
  simp [World.setCell, Array.getElem?_modify, h]
theorem IB.far (h : IB w g l) {p : Addr} (hp : g ≠ p.block) (u : Value) : IB (w.setCell p u) g l := (Below.heap_setCell w p u g hp).trans h
theorem IB.below {B : Nat} (h : IB w g l) (hb : Below B w w') (hg : g < B) : IB w' g l := (hb.block g hg).trans h
theorem IB.kept {row : Option Nat} (h : IB w g l) (hg : w.grownBy w' row) (hne : row ≠ some g) : IB w' g l := (hg.block g h.lt (fun e => hne e.symm)).trans h
theorem IB.drew (h : IB w g l) : IB w.drew g l := h
theorem IB.drewN (h : IB w g l) (n : Nat) : IB (w.drewN n) g l := h
theorem Rd.drew (h : Rd w B A l) : Rd w.drew B A l := h
theorem Rd.drewN (h : Rd w B A l) (n : Nat) : Rd (w.drewN n) B A l := h
theorem Rd.alloc (h : Rd w B A l) (hB : B ≤ w.heap.size) (o : Obj) : Rd (w.alloc o) B A l := h.below ((Below.refl _ _).alloc hB o)
theorem Rd.setCell (h : Rd w B A l) {p : Addr} (hB : B ≤ p.block) (u : Value) : Rd (w.setCell p u) B A l := h.below ((Below.refl _ _).setCell hB u)
end
theorem below_drewN' {B : Nat} {a w : World} (h : Below B a w) (n : Nat) : Below B a (w.drewN n) := ⟨h.os, h.tape, h.output, h.size, h.block⟩
theorem bcell {B : Nat} {W w1 : World} (hb : Below B W w1) : (∀ b o, b < B → w1.cell? ⟨b, o, none⟩ = W.cell? ⟨b, o, none⟩) ∧ (∀ b o, b < B → w1.frozen? ⟨b, o, none⟩ = W.frozen? ⟨b, o, none⟩) :=
  ⟨fun b o h => hb.cell (p := ⟨b, o, none⟩) h, fun b o h => hb.frozen (p := ⟨b, o, none⟩) h⟩
theorem alloc3 (w : World) (v0 v1 v2 : Value) (t : TypeId) : (w.alloc (.cells #[v0, v1, v2] t)).cell? ⟨w.heap.size, 0, none⟩ = some v0 ∧
    (w.alloc (.cells #[v0, v1, v2] t)).cell? ⟨w.heap.size, 1, none⟩ = some v1 ∧ (w.alloc (.cells #[v0, v1, v2] t)).cell? ⟨w.heap.size, 2, none⟩ = some v2 := by
  simp [go_sem]
theorem keep3 {B b : Nat} {W w1 : World} {v0 v1 v2 : Value} (hb : Below B W w1) (hlt : b < B) (h : W.cell? ⟨b, 0, none⟩ = some v0 ∧ W.cell? ⟨b, 1, none⟩ = some v1 ∧ W.cell? ⟨b, 2, none⟩ = some v2) :
    w1.cell? ⟨b, 0, none⟩ = some v0 ∧ w1.cell? ⟨b, 1, none⟩ = some v1 ∧ w1.cell? ⟨b, 2, none⟩ = some v2 :=
  ⟨(hb.cell (p := ⟨b, 0, none⟩) hlt).trans h.1, (hb.cell (p := ⟨b, 1, none⟩) hlt).trans h.2.1, (hb.cell (p := ⟨b, 2, none⟩) hlt).trans h.2.2⟩
theorem made_ints (n : Nat) : madeCells #[Value.int .i64 0] n = ((List.replicate n (0 : Int)).map (Value.int .i64)).toArray := by
  apply Array.ext
  · simp [madeCells]
  · intro i h1 h2
    simp [madeCells, Nat.mod_one]
theorem infoInt : (Try.prog.info? 3).map (fun i => (i.zero, i.size, i.bytes)) = some (some (.int .i64 0), 1, 8) := by kernel_rfl
theorem mk_ints (n : Nat) (h : n ≤ 70000) (w : World) : (Instr.makeSlice 22 (.int .i64 (n : Int)) (.int .i64 (n : Int))).run Try.prog w =
    .ok (.slice (some ⟨w.heap.size, 0, none⟩) n n) (w.alloc (.cells (Array.replicate n (Value.int .i64 0)) 3)) := by
  rw [show Array.replicate n (Value.int .i64 0) = ((List.replicate n (0 : Int)).map (Value.int .i64)).toArray by simp, ← made_ints]
  exact run_make_row' 22 3 (.int .i64 0) 8 Try.underlying22 infoInt rfl .i64 .i64 n (by omega) (by omega) w
theorem IB.newz (w : World) (n : Nat) : IB (w.alloc (.cells (Array.replicate n (Value.int .i64 0)) 3)) w.heap.size (List.replicate n 0) := by
  have h := IB.new w (List.replicate n 0)
  simpa using h
theorem ret_int {k : IntKind} {a b : Int} (h : a = b) : Ending.returned (.int k a) = .returned (.int k b) := by rw [h]
theorem ret_bool {a b : Bool} (h : a = b) : Ending.returned (.bool a) = .returned (.bool b) := by rw [h]

/-- What a call that makes a list of its own hands back. -/
def Gives (B : Nat) (l : List Int) (w : World) (e : Ending) (w' : World) : Prop :=
  ∃ g, e = .returned (.slice (some ⟨g, 0, none⟩) l.length l.length) ∧ B ≤ g ∧ IB w' g l ∧ Below B w w'
end Go.Proofs.Ytnbkmkeiophjoaa
