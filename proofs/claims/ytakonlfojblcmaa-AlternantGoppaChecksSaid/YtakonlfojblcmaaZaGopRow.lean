/- Entries that are elements; cells of a field and one more, kept. The reference's elimination. The reference: Canon of rows, copies of fields, equal rows. The reference's codes: Field, Make, Same. The reference's codes: Make, Same. Layer 18 of the program: elements, twice. The row of a law of layer 18: an argument of type api.GRS, opened. Layer 18 of the program: open. Go's slices.Index and slices.Contains over ints. The row of a law: an argument of type api.Code, opened. The row of a law of layer 19: an argument of type api.Goppa, opened. -/
import Derived.Deep.CutRange
import Derived.Deep.Slices
import Derived.IntWalk
import Derived.Test.YtakonlfojblcmaaZaRF
import Derived.Test.YtakonlfojblcmaaZaGA
import Derived.Test.YtakonlfojblcmaaZaMat
import Derived.Test.YtakonlfojblcmaaZaBxs
import Derived.Test.YtakonlfojblcmaaZaDot
import Derived.Test.YtakonlfojblcmaaZaOnce
namespace Go.Proofs.Ytakonlfojblcmaa
open Go.RowKit Cw

/-- Are all entries elements? -/
def elB (D : Desc) (l : List Int) : Bool := decide (∀ x ∈ l, 0 ≤ x ∧ x < (D.q : Int))
theorem elB_iff {D : Desc} {l : List Int} : elB D l = true ↔ ∀ j, j < l.length → 0 ≤ l[j]?.getD 0 ∧ l[j]?.getD 0 < (D.q : Int) := by
  unfold elB
  rw [decide_eq_true_iff]
  constructor
  · intro h j hj
    rw [List.getElem?_eq_getElem hj]
    exact h _ (List.getElem_mem _)
  · intro h x hx
    obtain ⟨j, hj, rfl⟩ := List.getElem_of_mem hx
    have := h j hj
    rwa [List.getElem?_eq_getElem hj] at this
theorem elB_no {D : Desc} {l : List Int} {j : Nat} (hj : j < l.length) (h : ¬ (0 ≤ l[j]?.getD 0 ∧ l[j]?.getD 0 < (D.q : Int))) : elB D l = false := by
  rw [← Bool.not_eq_true, elB_iff]
  exact fun h2 => h (h2 j hj)
theorem keep4 {B b b1 o1 : Nat} {W w1 : World} {v0 v1 v2 v3 : Value} (hb : Below B W w1) (h2 : b < B) (h3 : b1 < B) (h4 : W.cell? ⟨b, 0, none⟩ = some v0 ∧ W.cell? ⟨b, 1, none⟩ = some v1 ∧ W.cell? ⟨b, 2, none⟩ = some v2 ∧ W.cell? ⟨b1, o1, none⟩ = some v3) :
    w1.cell? ⟨b, 0, none⟩ = some v0 ∧ w1.cell? ⟨b, 1, none⟩ = some v1 ∧ w1.cell? ⟨b, 2, none⟩ = some v2 ∧ w1.cell? ⟨b1, o1, none⟩ = some v3 :=
  have k := keep3 hb h2 ⟨h4.1, h4.2.1, h4.2.2.1⟩
  ⟨k.1, k.2.1, k.2.2, (hb.cell (p := ⟨b1, o1, none⟩) h3).trans h4.2.2.2⟩
theorem Bx.cells {w : World} {b : Nat} {D : Desc} {A : Option Addr} {n c : Nat} (h : Bx w b D A n c) : w.cell? ⟨b, 0, none⟩ = some (.int .i64 D.p) ∧ w.cell? ⟨b, 1, none⟩ = some (.int .i64 D.m) ∧ w.cell? ⟨b, 2, none⟩ = some (.slice A n c) := h
end Go.Proofs.Ytakonlfojblcmaa

namespace Go.Proofs.Ytakonlfojblcmaa
open Go.RowKit Cw
open Cw.CField (inv)
attribute [local go_sem] Oper.semAt_some

/-- A header replaced by that of a row of m elements. -/
theorem MB.put {D : Desc} {w : World} {L g n m : Nat} {q : Option Nat} {M : Nat → Nat → R D} (h : MB w L g n q (rowsL D m M)) {i : Nat} (hi : i < n) {b o c : Nat} {f : Nat → R D} (hr : Rd w w.heap.size (some ⟨b, o, none⟩) (rowL D m f)) (hl : m ≤ c) (hc : c ≤ maxLen) (hb : b ≠ g) (hq : q ≠ some b) (hL : L ≤ b) :
    MB (w.setCell ⟨g, i, none⟩ (.slice (some ⟨b, o, none⟩) m c)) L g n q (rowsL D m (setR M i f)) := by
  have k := h.set hi hr (by rw [rowL_length]; exact hl) hc (fun _ a e => by cases e; exact ⟨hb, hq, hL⟩)
  rw [rowL_length, setR_rowsL] at k
  exact k
def natL (l : List Nat) : List Int := l.map fun k : Nat => (k : Int)
end Go.Proofs.Ytakonlfojblcmaa

namespace Go.Proofs.Ytakonlfojblcmaa
open Go.RowKit Cw
attribute [local go_sem] Oper.semAt_some

/-- The number of pivots. -/
noncomputable def rkS (F : FD) (n cols : Nat) (M : Nat → Nat → R F.toDesc) : Nat := (elS n M cols).2.length
end Go.Proofs.Ytakonlfojblcmaa

namespace Go.Proofs.Ytakonlfojblcmaa
open Go.RowKit Cw
attribute [local go_sem] Oper.semAt_some

/-- The five cells of a code, free to be written. -/
def Five (w : World) (b : Nat) (v0 v1 v2 v3 v4 : Value) : Prop :=
  w.cell? ⟨b, 0, none⟩ = some v0 ∧ w.cell? ⟨b, 1, none⟩ = some v1 ∧ w.cell? ⟨b, 2, none⟩ = some v2 ∧ w.cell? ⟨b, 3, none⟩ = some v3 ∧ w.cell? ⟨b, 4, none⟩ = some v4 ∧
  w.frozen? ⟨b, 0, none⟩ = false ∧ w.frozen? ⟨b, 1, none⟩ = false ∧ w.frozen? ⟨b, 2, none⟩ = false ∧ w.frozen? ⟨b, 3, none⟩ = false ∧ w.frozen? ⟨b, 4, none⟩ = false
theorem Five.keep {B b : Nat} {w w1 : World} {v0 v1 v2 v3 v4 : Value} (h : Five w b v0 v1 v2 v3 v4) (hb : Below B w w1) (hlt : b < B) : Five w1 b v0 v1 v2 v3 v4 := by
  obtain ⟨a0, a1, a2, a3, a4, f0, f1, f2, f3, f4⟩ := h
  exact ⟨(hb.cell (p := ⟨b, 0, none⟩) hlt).trans a0, (hb.cell (p := ⟨b, 1, none⟩) hlt).trans a1, (hb.cell (p := ⟨b, 2, none⟩) hlt).trans a2, (hb.cell (p := ⟨b, 3, none⟩) hlt).trans a3, (hb.cell (p := ⟨b, 4, none⟩) hlt).trans a4,
    (hb.frozen (p := ⟨b, 0, none⟩) hlt).trans f0, (hb.frozen (p := ⟨b, 1, none⟩) hlt).trans f1, (hb.frozen (p := ⟨b, 2, none⟩) hlt).trans f2, (hb.frozen (p := ⟨b, 3, none⟩) hlt).trans f3, (hb.frozen (p := ⟨b, 4, none⟩) hlt).trans f4⟩
theorem Five.new (w : World) (v0 v1 v2 v3 v4 : Value) (t : TypeId) : Five (w.alloc (.cells #[v0, v1, v2, v3, v4] t)) w.heap.size v0 v1 v2 v3 v4 := by
  unfold Five
  simp [go_sem]
theorem set5 {w3 : World} {b : Nat} (u0 u1 u2 u3 u4 : Value) : Below b w3 (((((w3.setCell ⟨b, 0, none⟩ u0).setCell ⟨b, 1, none⟩ u1).setCell ⟨b, 2, none⟩ u2).setCell ⟨b, 3, none⟩ u3).setCell ⟨b, 4, none⟩ u4) :=
  (((((Below.refl _ _).setCell (p := ⟨b, 0, none⟩) (Nat.le_refl _) _).setCell (p := ⟨b, 1, none⟩) (Nat.le_refl _) _).setCell (p := ⟨b, 2, none⟩) (Nat.le_refl _) _).setCell (p := ⟨b, 3, none⟩) (Nat.le_refl _) _).setCell (p := ⟨b, 4, none⟩) (Nat.le_refl _) _
end Go.Proofs.Ytakonlfojblcmaa

namespace Go.Proofs.Ytakonlfojblcmaa
open Go.RowKit Cw
attribute [local go_sem] Oper.semAt_some

theorem Rd.set5 {w : World} {B b : Nat} {A : Option Addr} {l : List Int} (h : Rd w B A l) (hA : ∀ a, A = some a → a.block ≠ b) (u0 u1 u2 u3 u4 : Value) : Rd (((((w.setCell ⟨b, 0, none⟩ u0).setCell ⟨b, 1, none⟩ u1).setCell ⟨b, 2, none⟩ u2).setCell ⟨b, 3, none⟩ u3).setCell ⟨b, 4, none⟩ u4) B A l :=
  ((((h.farN (fun _ => hA) 0 u0).farN (fun _ => hA) 1 u1).farN (fun _ => hA) 2 u2).farN (fun _ => hA) 3 u3).farN (fun _ => hA) 4 u4
theorem set5_above {w : World} {b L : Nat} (hL : b < L) (u0 u1 u2 u3 u4 : Value) (p : Addr) (hp : L ≤ p.block) : (((((w.setCell ⟨b, 0, none⟩ u0).setCell ⟨b, 1, none⟩ u1).setCell ⟨b, 2, none⟩ u2).setCell ⟨b, 3, none⟩ u3).setCell ⟨b, 4, none⟩ u4).cell? p = w.cell? p := by
  have hne : b ≠ p.block := by omega
  rw [World.cell?_setCell_far _ _ _ _ hne, World.cell?_setCell_far _ _ _ _ hne, World.cell?_setCell_far _ _ _ _ hne, World.cell?_setCell_far _ _ _ _ hne, World.cell?_setCell_far _ _ _ _ hne]

end Go.Proofs.Ytakonlfojblcmaa

namespace Go.Proofs.Ytakonlfojblcmaa
open Go.RowKit Cw

/-- Are two entries equal? -/
def twB (l : List Int) : Bool := decide (¬ l.Nodup)
theorem twB_yes {l : List Int} {i j : Nat} (hij : j < i) (hi : i < l.length) (h : l[i]?.getD 0 = l[j]?.getD 0) : twB l = true := by
  unfold twB
  rw [decide_eq_true_iff]
  intro hn
  rw [List.getElem?_eq_getElem hi, List.getElem?_eq_getElem (by omega : j < l.length)] at h
  exact List.pairwise_iff_getElem.1 hn j i (by omega) hi hij h.symm
theorem twB_no {l : List Int} (h : ∀ i j, j < i → i < l.length → l[i]?.getD 0 ≠ l[j]?.getD 0) : twB l = false := by
  unfold twB
  rw [decide_eq_false_iff_not, Classical.not_not]
  refine List.pairwise_iff_getElem.2 fun i j hi hj hij e => h j i hij hj ?_
  rw [List.getElem?_eq_getElem hi, List.getElem?_eq_getElem hj]
  exact e.symm

end Go.Proofs.Ytakonlfojblcmaa

namespace Go.Proofs.Ytakonlfojblcmaa
open Go.ChangeShapes Go.WideShapes Go.ChangeAt Go.RowKit Go.Joins Go.Deep

section
variable {H : Type} {enc : TypeId × Value → H} {W : World} {base : Nat}
theorem cells_ints' : Try.prog.cellsOf 22 = 1 := by kernel_rfl
end
end Go.Proofs.Ytakonlfojblcmaa

namespace Go.Proofs.Ytakonlfojblcmaa
open Go.RowKit Cw

theorem alloc6 (w : World) (v0 v1 v2 v3 v4 v5 : Value) (t : TypeId) : (w.alloc (.cells #[v0, v1, v2, v3, v4, v5] t)).cell? ⟨w.heap.size, 0, none⟩ = some v0 ∧ (w.alloc (.cells #[v0, v1, v2, v3, v4, v5] t)).cell? ⟨w.heap.size, 1, none⟩ = some v1 ∧ (w.alloc (.cells #[v0, v1, v2, v3, v4, v5] t)).cell? ⟨w.heap.size, 2, none⟩ = some v2 ∧
    (w.alloc (.cells #[v0, v1, v2, v3, v4, v5] t)).cell? ⟨w.heap.size, 3, none⟩ = some v3 ∧ (w.alloc (.cells #[v0, v1, v2, v3, v4, v5] t)).cell? ⟨w.heap.size, 4, none⟩ = some v4 ∧ (w.alloc (.cells #[v0, v1, v2, v3, v4, v5] t)).cell? ⟨w.heap.size, 5, none⟩ = some v5 := by
  simp [go_sem]

end Go.Proofs.Ytakonlfojblcmaa

namespace Go.Proofs.Ytakonlfojblcmaa
open Go.RowKit Cw

/-- Is the number in the list? -/
def conB (l : List Int) (x : Int) : Bool := decide (x ∈ l)
/-- The index, or a negative number. -/
def IdxPost (l : List Int) (x : Int) (w : World) (e : Ending) (w' : World) : Prop := ∃ i : Int, e = .returned (.int .i64 i) ∧ w = w' ∧ decide (0 ≤ i) = conB l x
theorem conB_yes {l : List Int} {k : Nat} (h : k < l.length) : conB l (l[k]?.getD 0) = true := by
  unfold conB
  rw [decide_eq_true_iff, List.getElem?_eq_getElem h]
  exact List.getElem_mem h
theorem conB_no {l : List Int} {x : Int} (h : ∀ j, j < l.length → l[j]?.getD 0 ≠ x) : conB l x = false := by
  unfold conB
  rw [decide_eq_false_iff_not]
  intro hm
  obtain ⟨j, hj, e⟩ := List.getElem_of_mem hm
  exact h j hj (by rw [List.getElem?_eq_getElem hj]; exact e)
set_option maxHeartbeats 1000000 in
theorem Index_any (l : List Int) (x : Int) (A : Option Addr) (c : Nat) (w : World) (hr : Rd w w.heap.size A l) (hl : l.length ≤ maxLen) :
    Calls Try.prog 129 #[.slice A l.length c, .int .i64 x] w (IdxPost l x w) := by
  unfold maxLen at hl
  unfold IdxPost
  go_enter Try.func129, Try.ntmps129
  go_wp2_with (fail)
  go_loop [8, 5] (fun i _ => ∃ k : Nat, k ≤ l.length ∧ i = .int .i64 k ∧ Hid (∀ j, j < k → l[j]?.getD 0 ≠ x)) (fun i _ => l.length - (intOf i).toNat)
  case atStart => exact ⟨0, by omega, rfl, fun j hj => absurd hj (by omega)⟩
  case round =>
    obtain ⟨k, hk, rfl, hall⟩ := hrel
    by_cases hlt : k < l.length
    · obtain ⟨b, o, rfl, -, hc⟩ := hr.at_ hlt
      have i0 : (0 : Int) ≤ (k : Int) := by omega
      have i1 : (k : Int) < (l.length : Int) := by omega
      by_cases hy : x = l[k]?.getD 0
      · have hfin := Lib.hid (conB_yes hlt)
        rw [← hy] at hc hfin
        have hyb : (x == x) = true := by simp
        clear hy
        go_wp2_with (fail)
        go_ret
        exact ⟨(k : Int), rfl, rfl, by rw [hfin.out]; exact decide_eq_true (by omega)⟩
      · have hall2 : Hid (∀ j, j < k + 1 → l[j]?.getD 0 ≠ x) := fun j hj => by
          by_cases e : j = k
          · subst e; exact fun e => hy e.symm
          · exact hall.out j (by omega)
        have hyb : (x == l[k]?.getD 0) = false := by rw [beq_eq_false_iff_ne]; exact hy
        generalize l[k]?.getD 0 = y at *
        go_wp2_with (fail)
        go_round
        case rel => exact ⟨k + 1, by omega, by go_num, hall2⟩
        case measure => simp [intOf]; omega
    · have hfin := Lib.hid (conB_no (l := l) (x := x) (fun j hj => hall.out j (by omega)))
      go_wp2_with (fail)
      go_ret
      exact ⟨-1, rfl, rfl, by rw [hfin.out]; rfl⟩
set_option maxHeartbeats 1000000 in
theorem Contains_any (l : List Int) (x : Int) (A : Option Addr) (c : Nat) (w : World) (hr : Rd w w.heap.size A l) (hl : l.length ≤ maxLen) :
    Calls Try.prog 111 #[.slice A l.length c, .int .i64 x] w fun e w' => e = .returned (.bool (conB l x)) ∧ w = w' := by
  have hI := Lib.hid (Index_any l x A c w hr hl)
  go_enter Try.func111, Try.ntmps111
  go_wp2_with (fail)
  (with_reducible refine hI.out.mono ?_)
  rintro e w1 ⟨i, rfl, rfl, hi⟩
  replace hi := Lib.hid hi
  go_wp2_with (fail)
  go_ret
  exact ⟨ret_bool hi.out, rfl⟩
end Go.Proofs.Ytakonlfojblcmaa

namespace Go.Proofs.Ytakonlfojblcmaa
open Go.ChangeShapes Go.WideShapes Go.ChangeAt Go.RowKit Go.Joins Go.Deep

section
variable {H : Type} {enc : TypeId × Value → H} {W : World} {base : Nat}
/-- The three cells of a description of a field. -/
theorem cells_fieldC {n : Nat} {c0 c1 c2 : Value} {y : DataW H × List MemPlace} (h : DataW.trod enc Try.prog W 0 (fun _ => true) true n 24 [c0, c1, c2] = some y) (hlt : ∀ x ∈ y.2, x.block < W.heap.size) :
    ∃ (p m : Int) (A : Option Addr) (l : List Int) (c : Nat), c0 = .int .i64 p ∧ c1 = .int .i64 m ∧ c2 = .slice A l.length c ∧ I64 p ∧ I64 m ∧ l.length ≤ maxLen ∧ Rd W W.heap.size A l := by
  obtain ⟨f0, f1, f2, hs, t0, t1, t2, hone, hC⟩ := ty_field
  obtain ⟨o0, k0⟩ := hone_of hone 0 f0 rfl
  obtain ⟨o1, k1⟩ := hone_of hone 1 f1 rfl
  obtain ⟨o2, k2⟩ := hone_of hone 2 f2 rfl
  obtain ⟨y0, y1, y2, n', hx, -, h0, h1, h2⟩ := trod_struct3 hs h
  simp only [o0, o1, o2, k0, k1, k2] at h0 h1 h2
  rw [t0] at h0; rw [t1] at h1; rw [t2] at h2
  subst hx
  obtain ⟨x0, rfl, i0⟩ := cell_int (v := c0) h0
  obtain ⟨x1, rfl, i1⟩ := cell_int (v := c1) h1
  obtain ⟨A, l, c, rfl, hl, hm, hi, hr⟩ := cell_ints (v := c2) h2 fun x hx => hlt x (by simp [hx])
  exact ⟨x0, x1, A, l, c, rfl, rfl, rfl, i0, i1, by omega, hr⟩
theorem cells_fieldT5 : Try.prog.cellsOf 24 = 3 := by kernel_rfl
end
end Go.Proofs.Ytakonlfojblcmaa

namespace Go.Proofs.Ytakonlfojblcmaa
open Go.ChangeShapes Go.WideShapes Go.ChangeAt Go.RowKit Go.Joins Go.Deep

section
variable {H : Type} {enc : TypeId × Value → H} {W : World} {base : Nat}
theorem array8 {α : Type} {cs : Array α} (h : cs.size = 8) : ∃ c0 c1 c2 c3 c4 c5 c6 c7, cs = #[c0, c1, c2, c3, c4, c5, c6, c7] := by
  obtain ⟨l⟩ := cs
  match l, h with
  | [c0, c1, c2, c3, c4, c5, c6, c7], _ => exact ⟨c0, c1, c2, c3, c4, c5, c6, c7, rfl⟩
theorem ty_gop : ∃ f0 f1 f2 f3 : Field, Try.prog.underlying 47 = some (.struct #[f0, f1, f2, f3]) ∧ (f0.type = 24 ∧ f0.offset = 0) ∧ (f1.type = 24 ∧ f1.offset = 3) ∧ (f2.type = 22 ∧ f2.offset = 6) ∧ (f3.type = 22 ∧ f3.offset = 7) :=
  ⟨_, _, _, _, Try.underlying47, ⟨rfl, rfl⟩, ⟨rfl, rfl⟩, ⟨rfl, rfl⟩, ⟨rfl, rfl⟩⟩
theorem cells_gop : Try.prog.cellsOf 47 = 8 := by kernel_rfl
set_option maxRecDepth 100000 in
theorem arg_gop {v : Value} {d : DataW H} {p : List MemPlace} (hv : Value.okWide Try.prog W .any base 47 v) (h : DataW.Trod enc Try.prog W 0 (fun _ => true) true 47 v d p) (hlt : ∀ x ∈ p, x.block < W.heap.size) :
    ∃ (P M Q N : Int) (A B C D : Option Addr) (ml nl poly pts : List Int) (c b k e : Nat), v = .agg #[.int .i64 P, .int .i64 M, .slice A ml.length c, .int .i64 Q, .int .i64 N, .slice B nl.length b, .slice C poly.length k, .slice D pts.length e] ∧
      I64 P ∧ I64 M ∧ I64 Q ∧ I64 N ∧ ml.length ≤ maxLen ∧ nl.length ≤ maxLen ∧ (poly.length ≤ k ∧ k ≤ maxLen) ∧ (pts.length ≤ e ∧ e ≤ maxLen) ∧ (∀ x ∈ poly, I64 x) ∧ (∀ x ∈ pts, I64 x) ∧ Rd W W.heap.size A ml ∧ Rd W W.heap.size B nl ∧ Rd W W.heap.size C poly ∧ Rd W W.heap.size D pts := by
  obtain ⟨f0, f1, f2, f3, hs, ⟨t0, o0⟩, ⟨t1, o1⟩, ⟨t2, o2⟩, ⟨t3, o3⟩⟩ := ty_gop
  obtain ⟨cs, rfl, hsz⟩ := okWide_struct hs hv
  obtain ⟨c0, c1, c2, c3, c4, c5, c6, c7, rfl⟩ := array8 (hsz.trans cells_gop)
  obtain ⟨fuel, hf⟩ := h
  obtain ⟨xs, n, _, hx, _, hlen, hg⟩ := DataW.trod_struct hs hf
  match xs, hlen with
  | [y0, y1, y2, y3], _ =>
    have g0 := hg 0 f0 rfl
    have g1 := hg 1 f1 rfl
    have g2 := hg 2 f2 rfl
    have g3 := hg 3 f3 rfl
    rw [t0, o0, cells_fieldT5] at g0
    rw [t1, o1, cells_fieldT5] at g1
    rw [t2, o2, cells_ints'] at g2
    rw [t3, o3, cells_ints'] at g3
    simp only [Prod.mk.injEq] at hx
    have hp := hx.2
    obtain ⟨P, M, A, ml, c, rfl, rfl, rfl, i0, i1, hl, hr⟩ := cells_fieldC (c0 := c0) (c1 := c1) (c2 := c2) g0 fun x hx => hlt x (by rw [hp]; simp [hx])
    obtain ⟨Q, N, B, nl, b, rfl, rfl, rfl, i2, i3, hl2, hr2⟩ := cells_fieldC (c0 := c3) (c1 := c4) (c2 := c5) g1 fun x hx => hlt x (by rw [hp]; simp [hx])
    obtain ⟨C, poly, k, rfl, a1, b1, d1, r1⟩ := cell_ints (v := c6) g2 fun x hx => hlt x (by rw [hp]; simp [hx])
    obtain ⟨D, pts, e, rfl, a2, b2, d2, r2⟩ := cell_ints (v := c7) g3 fun x hx => hlt x (by rw [hp]; simp [hx])
    exact ⟨P, M, Q, N, A, B, C, D, ml, nl, poly, pts, c, b, k, e, rfl, i0, i1, i2, i3, hl, hl2, ⟨a1, b1⟩, ⟨a2, b2⟩, d1, d2, hr, hr2, r1, r2⟩
end
end Go.Proofs.Ytakonlfojblcmaa
