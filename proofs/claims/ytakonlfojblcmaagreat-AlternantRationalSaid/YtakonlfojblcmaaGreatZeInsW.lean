/- Boxes of several cells, as lists of values. Layer 12 of the reference: Fit and Inside of two valid codes over one field. -/
import Derived.Test.YtakonlfojblcmaaGreatZeP4
import Derived.Test.YtakonlfojblcmaaGreatZeRowL
import Derived.Test.YtakonlfojblcmaaGreatZeMH
import Derived.Test.YtakonlfojblcmaaGreatZeKnlP
import Derived.Test.YtakonlfojblcmaaGreatZeTk
namespace Go.Proofs.YtakonlfojblcmaaGreat
section
open Go.RowKit Cw

def Bxs (w : World) (b : Nat) (vs : List Value) : Prop := ∀ i v, vs[i]? = some v → w.cell? ⟨b, i, none⟩ = some v ∧ w.frozen? ⟨b, i, none⟩ = false
section
variable {w w1 : World} {b B : Nat} {vs : List Value}
theorem Bxs.keep (h : Bxs w b vs) (hb : Below B w w1) (hlt : b < B) : Bxs w1 b vs := fun i v e => ⟨(hb.cell (p := ⟨b, i, none⟩) hlt).trans (h i v e).1, (hb.frozen (p := ⟨b, i, none⟩) hlt).trans (h i v e).2⟩
theorem Bxs.new (w : World) (vs : List Value) (t : TypeId) : Bxs (w.alloc (.cells vs.toArray t)) w.heap.size vs := fun i v e => by
 have h : (w.alloc (.cells vs.toArray t)).heap[w.heap.size]? = some (.cells vs.toArray t (0, 0)) := heap_alloc_new w (.cells vs.toArray t);refine ⟨?_, ?_⟩
 ·unfold World.cell?;rw [h]
  simpa using e
 ·unfold World.frozen?;rw [h];simp
theorem Bxs.drew (h : Bxs w b vs) : Bxs w.drew b vs := h
theorem Bxs.far (h : Bxs w b vs) {g : Nat} (hne : g ≠ b) (j : Nat) (u : Value) : Bxs (w.setCell ⟨g, j, none⟩ u) b vs := fun i v e => ⟨(World.cell?_setCell_far _ _ _ _ hne).trans (h i v e).1, by have := (h i v e).2; simp [go_sem, this]⟩
theorem Bxs.set_ (h : Bxs w b vs) {j : Nat} (hj : j < vs.length) (u : Value) : Bxs (w.setCell ⟨b, j, none⟩ u) b (vs.set j u) := fun i v e => by
 by_cases g : i = j
 ·subst g;rw [List.getElem?_set_self hj] at e
  cases e
  have h0 := h i _ (List.getElem?_eq_getElem hj);exact ⟨World.cell?_setCell_same _ _ _ h0.1, by have := h0.2; simp [go_sem, this]⟩
 ·rw [List.getElem?_set_ne (fun e2 => g e2.symm)] at e;have h0 := h i v e;exact ⟨(hdr_other g).trans h0.1, by have := h0.2; simp [go_sem, this]⟩
def stAll : World → Nat → Nat → List Value → World
 | w, _, _, [] => w
 | w, b, i, u :: us => stAll (w.setCell ⟨b, i, none⟩ u) b (i + 1) us
theorem stAll_below {a : World} (hb : B ≤ b) : ∀ (us : List Value) (i : Nat) (w : World), Below B a w → Below B a (stAll w b i us)
 | [], _, _, h => h
 | u :: us, i, _, h => stAll_below hb us (i + 1) _ (h.setCell (p := ⟨b, i, none⟩) hb u)
theorem stAll_size : ∀ (us : List Value) (i : Nat) (w : World), (stAll w b i us).heap.size = w.heap.size
 | [], _, _ => rfl
 | _ :: us, i, _ => (stAll_size us (i + 1) _).trans (by simp [World.setCell])
theorem stAll_cell {p : Addr} (hp : b ≠ p.block) : ∀ (us : List Value) (i : Nat) (w : World), (stAll w b i us).cell? p = w.cell? p
 | [], _, _ => rfl
 | _ :: us, i, _ => (stAll_cell hp us (i + 1) _).trans (World.cell?_setCell_far _ _ _ _ hp)
theorem stAll_IB {x : Nat} (hx : x ≠ b) : ∀ (us : List Value) (i : Nat) (w : World), (stAll w b i us).heap[x]? = w.heap[x]?
 | [], _, _ => rfl
 | u :: us, i, w => (stAll_IB hx us (i + 1) _).trans (Below.heap_setCell w ⟨b, i, none⟩ u x hx)
theorem Rd.farS {L : Nat} {A : Option Addr} {l : List Int} (h : Rd w L A l) (hA : ∀ a, A = some a → a.block ≠ b) (us : List Value) (i : Nat) : Rd (stAll w b i us) L A l := fun hn => by
 obtain ⟨x, off, e, hx, hc⟩ := h hn;refine ⟨x, off, e, hx, fun j hj => ?_⟩;rw [stAll_cell (p := ⟨x, off + j, none⟩) (fun e2 => hA _ e e2.symm)];exact hc j hj
end
section
variable {w : World} {b : Nat}
theorem Bxs.c2 {v0 v1 : Value} (h : Bxs w b [v0, v1]) : w.cell? ⟨b, 0, none⟩ = some v0 ∧ w.cell? ⟨b, 1, none⟩ = some v1 := ⟨(h 0 _ rfl).1, (h 1 _ rfl).1⟩
theorem Bxs.f2 {v0 v1 : Value} (h : Bxs w b [v0, v1]) : w.frozen? ⟨b, 0, none⟩ = false ∧ w.frozen? ⟨b, 1, none⟩ = false := ⟨(h 0 _ rfl).2, (h 1 _ rfl).2⟩
theorem Bxs.c3 {v0 v1 v2 : Value} (h : Bxs w b [v0, v1, v2]) : w.cell? ⟨b, 0, none⟩ = some v0 ∧ w.cell? ⟨b, 1, none⟩ = some v1 ∧ w.cell? ⟨b, 2, none⟩ = some v2 := ⟨(h 0 _ rfl).1, (h 1 _ rfl).1, (h 2 _ rfl).1⟩
theorem Bxs.c5 {v0 v1 v2 v3 v4 : Value} (h : Bxs w b [v0, v1, v2, v3, v4]) : w.cell? ⟨b, 0, none⟩ = some v0 ∧ w.cell? ⟨b, 1, none⟩ = some v1 ∧ w.cell? ⟨b, 2, none⟩ = some v2 ∧ w.cell? ⟨b, 3, none⟩ = some v3 ∧ w.cell? ⟨b, 4, none⟩ = some v4 := ⟨(h 0 _ rfl).1, (h 1 _ rfl).1, (h 2 _ rfl).1, (h 3 _ rfl).1, (h 4 _ rfl).1⟩
theorem Bxs.f5 {v0 v1 v2 v3 v4 : Value} (h : Bxs w b [v0, v1, v2, v3, v4]) : w.frozen? ⟨b, 0, none⟩ = false ∧ w.frozen? ⟨b, 1, none⟩ = false ∧ w.frozen? ⟨b, 2, none⟩ = false ∧ w.frozen? ⟨b, 3, none⟩ = false ∧ w.frozen? ⟨b, 4, none⟩ = false := ⟨(h 0 _ rfl).2, (h 1 _ rfl).2, (h 2 _ rfl).2, (h 3 _ rfl).2, (h 4 _ rfl).2⟩
theorem Bxs.c7 {v0 v1 v2 v3 v4 v5 v6 : Value} (h : Bxs w b [v0, v1, v2, v3, v4, v5, v6]) : w.cell? ⟨b, 0, none⟩ = some v0 ∧ w.cell? ⟨b, 1, none⟩ = some v1 ∧ w.cell? ⟨b, 2, none⟩ = some v2 ∧ w.cell? ⟨b, 3, none⟩ = some v3 ∧ w.cell? ⟨b, 4, none⟩ = some v4 ∧ w.cell? ⟨b, 5, none⟩ = some v5 ∧ w.cell? ⟨b, 6, none⟩ = some v6 := ⟨(h 0 _ rfl).1, (h 1 _ rfl).1, (h 2 _ rfl).1, (h 3 _ rfl).1, (h 4 _ rfl).1, (h 5 _ rfl).1, (h 6 _ rfl).1⟩
theorem Bxs.f7 {v0 v1 v2 v3 v4 v5 v6 : Value} (h : Bxs w b [v0, v1, v2, v3, v4, v5, v6]) : w.frozen? ⟨b, 0, none⟩ = false ∧ w.frozen? ⟨b, 1, none⟩ = false ∧ w.frozen? ⟨b, 2, none⟩ = false ∧ w.frozen? ⟨b, 3, none⟩ = false ∧ w.frozen? ⟨b, 4, none⟩ = false ∧ w.frozen? ⟨b, 5, none⟩ = false ∧ w.frozen? ⟨b, 6, none⟩ = false := ⟨(h 0 _ rfl).2, (h 1 _ rfl).2, (h 2 _ rfl).2, (h 3 _ rfl).2, (h 4 _ rfl).2, (h 5 _ rfl).2, (h 6 _ rfl).2⟩
theorem Bxs.c8 {v0 v1 v2 v3 v4 v5 v6 v7 : Value} (h : Bxs w b [v0, v1, v2, v3, v4, v5, v6, v7]) : w.cell? ⟨b, 0, none⟩ = some v0 ∧ w.cell? ⟨b, 1, none⟩ = some v1 ∧ w.cell? ⟨b, 2, none⟩ = some v2 ∧ w.cell? ⟨b, 3, none⟩ = some v3 ∧ w.cell? ⟨b, 4, none⟩ = some v4 ∧ w.cell? ⟨b, 5, none⟩ = some v5 ∧ w.cell? ⟨b, 6, none⟩ = some v6 ∧ w.cell? ⟨b, 7, none⟩ = some v7 := ⟨(h 0 _ rfl).1, (h 1 _ rfl).1, (h 2 _ rfl).1, (h 3 _ rfl).1, (h 4 _ rfl).1, (h 5 _ rfl).1, (h 6 _ rfl).1, (h 7 _ rfl).1⟩
theorem Bxs.f8 {v0 v1 v2 v3 v4 v5 v6 v7 : Value} (h : Bxs w b [v0, v1, v2, v3, v4, v5, v6, v7]) : w.frozen? ⟨b, 0, none⟩ = false ∧ w.frozen? ⟨b, 1, none⟩ = false ∧ w.frozen? ⟨b, 2, none⟩ = false ∧ w.frozen? ⟨b, 3, none⟩ = false ∧ w.frozen? ⟨b, 4, none⟩ = false ∧ w.frozen? ⟨b, 5, none⟩ = false ∧ w.frozen? ⟨b, 6, none⟩ = false ∧ w.frozen? ⟨b, 7, none⟩ = false := ⟨(h 0 _ rfl).2, (h 1 _ rfl).2, (h 2 _ rfl).2, (h 3 _ rfl).2, (h 4 _ rfl).2, (h 5 _ rfl).2, (h 6 _ rfl).2, (h 7 _ rfl).2⟩
end
theorem cell_al {w : World} {p : Addr} {v : Value} (h : w.cell? p = some v) (o : Obj) : (w.alloc o).cell? p = some v := by
 have hlt : p.block < w.heap.size := by
  refine Classical.byContradiction fun hn => ?_
  unfold World.cell? at h;rw [Array.getElem?_eq_none (by omega)] at h
  cases h
 exact (((Below.refl w.heap.size w).alloc (Nat.le_refl _) o).cell hlt).trans h
theorem GF.al {w : World} {B g : Nat} {D : FD} (h : GF w B g D) (hB : B ≤ w.heap.size) (o : Obj) : GF (w.alloc o) B g D := h.below ((Below.refl w.heap.size w |>.alloc (Nat.le_refl _) o).mono hB)
theorem boxesA (w : World) (q : Nat) (vs : List Value) (t : TypeId) : Bxs ((w.alloc (.cells (Array.replicate q (Value.int .i64 0)) 3)).alloc (.cells vs.toArray t)) (w.heap.size + 1) vs ∧ IB ((w.alloc (.cells (Array.replicate q (Value.int .i64 0)) 3)).alloc (.cells vs.toArray t)) w.heap.size (List.replicate q 0) ∧ w.heap.size + 1 < ((w.alloc (.cells (Array.replicate q (Value.int .i64 0)) 3)).alloc (.cells vs.toArray t)).heap.size ∧ Below w.heap.size w ((w.alloc (.cells (Array.replicate q (Value.int .i64 0)) 3)).alloc (.cells vs.toArray t)) := by
 refine ⟨?_, (IB.newz w q).alloc _, by simp, ((Below.refl _ _).alloc (Nat.le_refl _) _).alloc (by simp) _⟩;have h := Bxs.new (w.alloc (.cells (Array.replicate q (Value.int .i64 0)) 3)) vs t
 rwa [World.size_alloc] at h
theorem boxesB (w : World) (q : Nat) (vs : List Value) (t : TypeId) : Bxs ((w.alloc (.cells vs.toArray t)).alloc (.cells (Array.replicate q (Value.int .i64 0)) 3)) w.heap.size vs ∧ IB ((w.alloc (.cells vs.toArray t)).alloc (.cells (Array.replicate q (Value.int .i64 0)) 3)) (w.heap.size + 1) (List.replicate q 0) ∧ w.heap.size + 1 < ((w.alloc (.cells vs.toArray t)).alloc (.cells (Array.replicate q (Value.int .i64 0)) 3)).heap.size ∧ Below w.heap.size w ((w.alloc (.cells vs.toArray t)).alloc (.cells (Array.replicate q (Value.int .i64 0)) 3)) := by
 refine ⟨(Bxs.new w vs t).keep ((Below.refl _ _).alloc (Nat.le_refl _) _) (by simp), ?_, by simp, ((Below.refl _ _).alloc (Nat.le_refl _) _).alloc (by simp) _⟩;have h := IB.newz (w.alloc (.cells vs.toArray t)) q
 rwa [World.size_alloc] at h
end
section
open Go.RowKit Cw
attribute [local go_sem] Oper.semAt_some

section
variable (F : FD) (m n1 n2 : Nat) (M1 M2 : Nat → Nat → R F.toDesc) (A1 A2 R1 R2 : Option Addr) (c1 c2 k1 k2 : Nat) (w : World)
set_option maxRecDepth 100000 in
set_option maxHeartbeats 8000000 in
theorem Fit12_ok (hgood : Good F.p F.m (modL F.toDesc)) (hc1 : Canl F n1 m M1) (hc2 : Canl F n2 m M2) (hm1 : 1 ≤ m) (hm : m ≤ 64) (hn1 : n1 ≤ 256) (hn2 : n2 ≤ 256) (hr1 : Rd w w.heap.size A1 (modL F.toDesc)) (hr2 : Rd w w.heap.size A2 (modL F.toDesc)) (hm1' : RdM w w.heap.size R1 n1 (rowsL F.toDesc m M1)) (hm2' : RdM w w.heap.size R2 n2 (rowsL F.toDesc m M2)) :
  Calls Tryz.prog 114 #[.agg #[.int .i64 F.p, .int .i64 F.m, .slice A1 F.mod.length c1, .int .i64 m, .slice R1 n1 k1], .agg #[.int .i64 F.p, .int .i64 F.m, .slice A2 F.mod.length c2, .int .i64 m, .slice R2 n2 k2]] w fun e w' => e = .returned (.int .i64 0) ∧ Below w.heap.size w w' := by
 have hC1 := fun W a b => Lib.hid (Check12_ok F hgood n1 m M1 hc1 A1 R1 c1 k1 W a b hn1 hm1 hm)
 have hC2 := fun W a b => Lib.hid (Check12_ok F hgood n2 m M2 hc2 A2 R2 c2 k2 W a b hn2 hm1 hm)
 have hSm := fun W a b => Same4_eq F.p F.m (modL F.toDesc) A1 A2 c1 c2 W a b (by rw [modL_length]; have := F.hlen; rw [this]; have := F.m8; unfold maxLen; split <;> omega)
 rw [modL_length] at hSm;obtain ⟨s, hs⟩ : ∃ s, s = w.heap.size := ⟨_, rfl⟩;obtain ⟨Z, hZ⟩ : ∃ Z, Z = (w.alloc (.cells #[.int .i64 F.p, .int .i64 F.m, .slice A1 F.mod.length c1, .int .i64 m, .slice R1 n1 k1] 27)).alloc (.cells #[.int .i64 F.p, .int .i64 F.m, .slice A2 F.mod.length c2, .int .i64 m, .slice R2 n2 k2] 27) := ⟨_, rfl⟩;have hB : Below w.heap.size w Z := by rw [hZ]; exact ((Below.refl _ _).alloc (Nat.le_refl _) _).alloc (by simp) _
 have hb1 : Hid (Bxs Z s [.int .i64 F.p, .int .i64 F.m, .slice A1 F.mod.length c1, .int .i64 m, .slice R1 n1 k1]) := by rw [hZ, hs]; exact (Bxs.new w _ _).keep ((Below.refl _ _).alloc (Nat.le_refl _) _) (by simp)
 have hb2 : Hid (Bxs Z (s + 1) [.int .i64 F.p, .int .i64 F.m, .slice A2 F.mod.length c2, .int .i64 m, .slice R2 n2 k2]) := by rw [hZ, hs]; have := Bxs.new (w.alloc (.cells #[.int .i64 F.p, .int .i64 F.m, .slice A1 F.mod.length c1, .int .i64 m, .slice R1 n1 k1] 27)) [.int .i64 F.p, .int .i64 F.m, .slice A2 F.mod.length c2, .int .i64 m, .slice R2 n2 k2] 27; rw [World.size_alloc] at this; exact this
 have hZs : s + 1 < Z.heap.size := by rw [hZ, hs]; simp
 have hq := hC1 Z ((hr1.below hB).more hB.size) ((hm1'.below hB).more hB.size);replace hZ := Lib.hid hZ;clear hC1;go_enter Tryz.func114, Tryz.ntmps114;obtain ⟨a0, a1, a2, a3, a4⟩ := hb1.out.c5;go_wp2_with (fail);rw [← hZ.out];simp only [← hs];replace hs := Lib.hid hs;(with_reducible refine hq.out.mono ?_);rintro e w1 ⟨rfl, hb3⟩;clear hq a0 a1 a2 a3 a4;have hB1 := hB.trans (hb3.mono hB.size);have hq := hC2 w1 ((hr2.below hB1).more hB1.size) ((hm2'.below hB1).more hB1.size);obtain ⟨d0, d1, d2, d3, d4⟩ := (hb2.out.keep hb3 hZs).c5;go_wp2_with (fail);(with_reducible refine hq.out.mono ?_);rintro e w2 ⟨rfl, hb4⟩;clear hq d0 d1 d2 d3 d4;have hbz := hb3.trans (hb4.mono hb3.size);have hB2 := hB.trans (hbz.mono hB.size);have hq := Lib.hid (hSm w2 ((hr1.below hB2).more hB2.size) ((hr2.below hB2).more hB2.size));obtain ⟨a0, a1, a2, a3, a4⟩ := (hb1.out.keep hbz (by omega)).c5;obtain ⟨d0, d1, d2, d3, d4⟩ := (hb2.out.keep hbz hZs).c5;go_wp2_with (fail);(with_reducible refine hq.out.mono ?_);rintro e w3 ⟨rfl, hb5⟩;clear hq a0 a1 a2 a3 a4 d0 d1 d2 d3 d4;have hbz3 := hbz.trans (hb5.mono hbz.size);obtain ⟨a0, a1, a2, a3, a4⟩ := (hb1.out.keep hbz3 (by omega)).c5;obtain ⟨d0, d1, d2, d3, d4⟩ := (hb2.out.keep hbz3 hZs).c5;go_wp2_with (fail);go_ret;exact ⟨rfl, hB.trans (hbz3.mono hB.size)⟩
set_option maxRecDepth 100000 in
set_option maxHeartbeats 8000000 in
theorem Inside12_yes (hgood : Good F.p F.m (modL F.toDesc)) (hc1 : Canl F n1 m M1) (hc2 : Canl F n2 m M2) (hm1 : 1 ≤ m) (hm : m ≤ 64) (hn1 : n1 ≤ 256) (hn2 : n2 ≤ 256) (hin : ∀ i, i < n1 → Span n2 m M2 (M1 i)) (hr1 : Rd w w.heap.size A1 (modL F.toDesc)) (hr2 : Rd w w.heap.size A2 (modL F.toDesc)) (hm1' : RdM w w.heap.size R1 n1 (rowsL F.toDesc m M1)) (hm2' : RdM w w.heap.size R2 n2 (rowsL F.toDesc m M2)) :
  Calls Tryz.prog 40 #[.agg #[.int .i64 F.p, .int .i64 F.m, .slice A1 F.mod.length c1, .int .i64 m, .slice R1 n1 k1], .agg #[.int .i64 F.p, .int .i64 F.m, .slice A2 F.mod.length c2, .int .i64 m, .slice R2 n2 k2]] w fun e w' => e = .returned (.tuple #[.bool true, .int .i64 0]) ∧ Below w.heap.size w w' := by
 have hFi := fun W a b d e => Lib.hid (Fit12_ok F m n1 n2 M1 M2 A1 A2 R1 R2 c1 c2 k1 k2 W hgood hc1 hc2 hm1 hm hn1 hn2 a b d e)
 obtain ⟨p, hRR⟩ := canl_RR hc2;have hIn : ∀ i, i < n1 → ∀ (Ai : Option Addr) (ci' : Nat) (W : World), Rd W W.heap.size A1 (modL F.toDesc) → RdM W W.heap.size R2 n2 (rowsL F.toDesc m M2) → Rd W W.heap.size Ai (rowL F.toDesc m (M1 i)) → Calls Tryz.prog 92 #[.agg #[.int .i64 F.p, .int .i64 F.m, .slice A1 F.mod.length c1], .slice R2 n2 k2, .slice Ai m ci'] W fun e w' => e = .returned (.bool true) ∧ Below W.heap.size W w' := fun i hi Ai ci' W a b d => by
  have h := In10_any F.toDesc n2 m M2 (M1 i) A1 R2 Ai c1 k2 ci' W a b d (by omega) (by omega) (fun t ht => by rw [fnz_RR hRR ht]; exact hRR.lt t ht);rw [rest_span hRR, spB_iff.2 (hin i hi)] at h;exact h
 replace hIn := fun i hi Ai ci' W a b d => Lib.hid (hIn i hi Ai ci' W a b d)
 obtain ⟨s, hs⟩ : ∃ s, s = w.heap.size := ⟨_, rfl⟩;obtain ⟨Z, hZ⟩ : ∃ Z, Z = (w.alloc (.cells #[.int .i64 F.p, .int .i64 F.m, .slice A1 F.mod.length c1, .int .i64 m, .slice R1 n1 k1] 27)).alloc (.cells #[.int .i64 F.p, .int .i64 F.m, .slice A2 F.mod.length c2, .int .i64 m, .slice R2 n2 k2] 27) := ⟨_, rfl⟩;have hB : Below w.heap.size w Z := by rw [hZ]; exact ((Below.refl _ _).alloc (Nat.le_refl _) _).alloc (by simp) _
 have hb1 : Hid (Bxs Z s [.int .i64 F.p, .int .i64 F.m, .slice A1 F.mod.length c1, .int .i64 m, .slice R1 n1 k1]) := by rw [hZ, hs]; exact (Bxs.new w _ _).keep ((Below.refl _ _).alloc (Nat.le_refl _) _) (by simp)
 have hb2 : Hid (Bxs Z (s + 1) [.int .i64 F.p, .int .i64 F.m, .slice A2 F.mod.length c2, .int .i64 m, .slice R2 n2 k2]) := by rw [hZ, hs]; have := Bxs.new (w.alloc (.cells #[.int .i64 F.p, .int .i64 F.m, .slice A1 F.mod.length c1, .int .i64 m, .slice R1 n1 k1] 27)) [.int .i64 F.p, .int .i64 F.m, .slice A2 F.mod.length c2, .int .i64 m, .slice R2 n2 k2] 27; rw [World.size_alloc] at this; exact this
 have hZs : s + 1 < Z.heap.size := by rw [hZ, hs]; simp
 have hq := hFi Z ((hr1.below hB).more hB.size) ((hr2.below hB).more hB.size) ((hm1'.below hB).more hB.size) ((hm2'.below hB).more hB.size);replace hZ := Lib.hid hZ;clear hFi hin;go_enter Tryz.func40, Tryz.ntmps40;obtain ⟨a0, a1, a2, a3, a4⟩ := hb1.out.c5;obtain ⟨d0, d1, d2, d3, d4⟩ := hb2.out.c5;go_wp2_with (fail);rw [← hZ.out];simp only [← hs];replace hs := Lib.hid hs;go_wp2_with (fail);(with_reducible refine hq.out.mono ?_);rintro e w1 ⟨rfl, hb3⟩;clear hq a0 a1 a2 a3 a4 d0 d1 d2 d3 d4;go_wp2_with (fail);go_loopw [7] (fun iS wr => ∃ i : Nat, i ≤ n1 ∧ iS = .int .i64 i ∧ Below Z.heap.size Z wr) (fun iS _ => n1 - (intOf iS).toNat)
 case atStart => exact ⟨0, by omega, rfl, hb3⟩
 case round =>
  clear hb3;obtain ⟨w2, rfl⟩ : ∃ w2 : World, w2 = wr := ⟨_, rfl⟩;obtain ⟨i, hi, rfl, hbw⟩ := hrel;have hB2 := hB.trans (hbw.mono hB.size);by_cases hlt : i < n1
  ·have i0 : (0 : Int) ≤ (i : Int) := by omega
   have i1 : (i : Int) < (n1 : Int) := by omega
   obtain ⟨br, orr, Ai, ci', rfl, hbr, hcr, hri, -, -⟩ := hm1'.at_ hlt;rw [rowsL_length] at hcr;have hcr2 := (hB2.cell (p := ⟨br, orr + i, none⟩) hbr).trans hcr;have hbd : Below w2.heap.size w2 w2.drew := (Below.refl _ _).drew;have hBd := hB2.trans (hbd.mono hB2.size);have hq := hIn i hlt Ai ci' w2.drew ((hr1.below hBd).more hBd.size) ((hm2'.below hBd).more hBd.size) ((hri.below hBd).more hBd.size);obtain ⟨a0, a1, a2, a3, a4⟩ := (hb1.out.keep hbw (by omega)).c5;have hd4 := (hb2.out.keep hbw hZs).c5.2.2.2.2;have hS0 := Lib.hid (show w2.cell? ⟨s, 0, none⟩ = some (.int .i64 F.p) ∧ w2.cell? ⟨s, 1, none⟩ = some (.int .i64 F.m) ∧ w2.cell? ⟨s, 2, none⟩ = some (.slice A1 F.mod.length c1) ∧ w2.cell? ⟨s + 1, 4, none⟩ = some (.slice R2 n2 k2) ∧ w2.cell? ⟨s, 4, none⟩ = some (.slice (some ⟨br, orr, none⟩) n1 k1) ∧ w2.cell? ⟨br, orr + i, none⟩ = some (.slice Ai m ci') from ⟨a0, a1, a2, hd4, a4, hcr2⟩);have hbl : br < w2.heap.size := Nat.lt_of_lt_of_le hbr hB2.size;have hs2 : s + 1 < w2.heap.size := Nat.lt_of_lt_of_le hZs hbw.size;clear hcr hri hd4;go_wp2_with (fail);clear a0 a1 a2 a3 a4 hcr2;refine wp_region_held_drew (S := fun w' => w'.cell? ⟨s, 0, none⟩ = some (.int .i64 F.p) ∧ w'.cell? ⟨s, 1, none⟩ = some (.int .i64 F.m) ∧ w'.cell? ⟨s, 2, none⟩ = some (.slice A1 F.mod.length c1) ∧ w'.cell? ⟨s + 1, 4, none⟩ = some (.slice R2 n2 k2) ∧ w'.cell? ⟨s, 4, none⟩ = some (.slice (some ⟨br, orr, none⟩) n1 k1) ∧ w'.cell? ⟨br, orr + i, none⟩ = some (.slice Ai m ci')) (by kernel_rfl) (by (try dsimp only); exact hS0.out) (fun hHeld => ?_);refine tk 0 ?_; try simp only [pS]
   refine tk 1 ?_; try simp only [pS]
   refine tk 2 ?_; try simp only [pS]
   refine tk 3 ?_; try simp only [pS]
   refine tk 4 ?_; try simp only [pS]
   refine tk 5 ?_; try simp only [pS]
   refine tk 6 ?_; try simp only [pS]
   refine tk 7 ?_; try simp only [pS]
   refine tk 8 ?_; try simp only [pS]
   refine rd 9 fun K hK => ?_
   go_simp;go_at_call 92;(with_reducible refine (hq).out.mono ?_);rintro e w3 ⟨rfl, hb4⟩;have hb23 := hbd.trans hb4;have hS3 := Lib.hid (show w3.cell? ⟨s, 0, none⟩ = some (.int .i64 F.p) ∧ w3.cell? ⟨s, 1, none⟩ = some (.int .i64 F.m) ∧ w3.cell? ⟨s, 2, none⟩ = some (.slice A1 F.mod.length c1) ∧ w3.cell? ⟨s + 1, 4, none⟩ = some (.slice R2 n2 k2) ∧ w3.cell? ⟨s, 4, none⟩ = some (.slice (some ⟨br, orr, none⟩) n1 k1) ∧ w3.cell? ⟨br, orr + i, none⟩ = some (.slice Ai m ci') from ⟨(hb23.cell (p := ⟨s, 0, none⟩) (show s < w2.heap.size by omega)).trans hS0.out.1, (hb23.cell (p := ⟨s, 1, none⟩) (show s < w2.heap.size by omega)).trans hS0.out.2.1, (hb23.cell (p := ⟨s, 2, none⟩) (show s < w2.heap.size by omega)).trans hS0.out.2.2.1, (hb23.cell (p := ⟨s + 1, 4, none⟩) hs2).trans hS0.out.2.2.2.1, (hb23.cell (p := ⟨s, 4, none⟩) (show s < w2.heap.size by omega)).trans hS0.out.2.2.2.2.1, (hb23.cell (p := ⟨br, orr + i, none⟩) hbl).trans hS0.out.2.2.2.2.2⟩);have hbe := hbw.trans (hb23.mono hbw.size);go_wp2_with (fail);refine hK.out _ _ (by (try dsimp only); exact hS3.out) (fun hHeld => ?_);clear hK K;try simp only [pS]
   refine tk 10 ?_; try simp only [pS]
   refine wpAnyH_done (by kernel_rfl) ?_ _;go_wp2_with (fail);go_roundw
   case rel => exact ⟨i + 1, by omega, by go_num, hbe⟩
   case measure => simp [intOf]; omega
  ·obtain rfl : n1 = i := by omega
   obtain ⟨a0, a1, a2, a3, a4⟩ := (hb1.out.keep hbw (by omega)).c5;go_wp2_with (fail);go_ret2;exact ⟨rfl, hB2⟩
end
end
end Go.Proofs.YtakonlfojblcmaaGreat
