/- The reference's value of a polynomial. One header appended, as a step of a region that draws its order. The program's generator matrix. The row of a law: an argument that is a list of ints, opened. The row of a law of layer 18: an argument of type api.GRS, opened. Plain law of layer 18: the weights of codewords, the dual description. No Go here. Plain law of layer 18: the dual description and its dual. No Go here. Plain law of layer 18: codewords are orthogonal to those of the dual description. No Go here. Layer 18: Puncture of the program, Without of the reference. Layer 18: the reference's Elements. Layer 18 of the reference and the law's own: equal descriptions, good, weights, inner products. The row of a law: an argument of type api.Code, opened. The row of a law of layer 19: an argument of type api.Goppa, opened. -/
import Derived.Deep.Slices
import Derived.Test.YtakonlfojblcmaaGreatZgP1
import Derived.Test.YtakonlfojblcmaaGreatZgRF
import Derived.Test.YtakonlfojblcmaaGreatZgGA
import Derived.Test.YtakonlfojblcmaaGreatZgLA
import Derived.Test.YtakonlfojblcmaaGreatZgMat
import Derived.Test.YtakonlfojblcmaaGreatZgMH
import Derived.Test.YtakonlfojblcmaaGreatZgMatX
import Derived.Test.YtakonlfojblcmaaGreatZgKerI
namespace Go.Proofs.YtakonlfojblcmaaGreat
section
open Go.RowKit Cw

set_option maxHeartbeats 1000000 in
theorem Eval5_any (D : Desc) (l : List Int) (x : Int) (A A1 : Option Addr) (c c1 : Nat) (w : World) (hr : Rd w w.heap.size A (modL D)) (hr1 : Rd w w.heap.size A1 l) (hl : l.length ≤ maxLen) :
  Calls Tryz.prog 53 #[.agg #[.int .i64 D.p, .int .i64 D.m, .slice A D.mod.length c], .slice A1 l.length c1, .int .i64 x] w fun e w' => e = .returned (.int .i64 (ci (pevI D l (eli D x)))) ∧ Below w.heap.size w w' := by
 unfold maxLen at hl;have hM := fun y z W hr => Lib.hid (Mul_any D y z A c W hr)
 have hA := fun y z W => Lib.hid (Add_any D y z A D.mod.length c W)
 have hbx0 := Bx.new w D A D.mod.length c 24;have hB0 : Below w.heap.size w (w.alloc (.cells #[.int .i64 D.p, .int .i64 D.m, .slice A D.mod.length c] 24)) := (Below.refl _ _).alloc (Nat.le_refl _) _;obtain ⟨u, hu⟩ : ∃ u, u = eli D x := ⟨_, rfl⟩;rw [← hu];replace hu := Lib.hid hu;go_enter Tryz.func53, Tryz.ntmps53;go_wp2_with (fail);go_loopw [9, 7, 8] (fun i o p wr => ∃ k : Nat, k ≤ l.length ∧ i = .int .i64 k ∧ o = .int .i64 (ci (rsum k fun i => eli D (l[i]?.getD 0) * pw u i)) ∧ p = .int .i64 (ci (pw u k)) ∧ Bx wr w.heap.size D A D.mod.length c ∧ Below w.heap.size w wr ∧ w.heap.size < wr.heap.size) (fun i _ _ _ => l.length - (intOf i).toNat)
 case atStart => exact ⟨0, by omega, rfl, by rw [rsum_zero, ci_zero], by rw [pw_zero, ci_one], hbx0, hB0, by simp⟩
 case round =>
  obtain ⟨k, hk, rfl, rfl, rfl, hbx, hbw, hsz⟩ := hrel;by_cases hlt : k < l.length
  ·have hk0 : (0 : Int) ≤ (k : Int) := by omega
   have hk1 : (k : Int) < (l.length : Int) := by omega
   obtain ⟨b, o, rfl, hb, hc⟩ := hr1.at_ hlt;have hc2 := (hbw.cell (p := ⟨b, o + k, none⟩) hb).trans hc;obtain ⟨y, hy⟩ : ∃ y, y = l[k]?.getD 0 := ⟨_, rfl⟩;rw [← hy] at hc2;have hM2 := fun W hr => (hM y (ci (pw u k)) W hr).out
   rw [eli_ci] at hM2;replace hM2 := fun W hr => Lib.hid (hM2 W hr)
   have hA2 := fun W => (hA (ci (rsum k fun i => eli D (l[i]?.getD 0) * pw u i)) (ci (eli D y * pw u k)) W).out
   have hs : rsum k (fun i => eli D (l[i]?.getD 0) * pw u i) + eli D y * pw u k = rsum (k + 1) (fun i => eli D (l[i]?.getD 0) * pw u i) := by rw [rsum_succ, hy]
   rw [eli_ci, eli_ci, hs] at hA2;replace hA2 := fun W => Lib.hid (hA2 W)
   have hM3 := fun W hr => (hM (ci (pw u k)) x W hr).out
   rw [eli_ci, ← hu.out, ← pw_succ] at hM3;replace hM3 := fun W hr => Lib.hid (hM3 W hr)
   have hrr := (hr.below hbw).more hbw.size;have hbo : b < wr.heap.size := Nat.lt_of_lt_of_le hb hbw.size;have hcc : Hid (_ ∧ _ ∧ _ ∧ wr.cell? ⟨b, o + k, none⟩ = _) := Lib.hid (show _ ∧ _ ∧ _ ∧ _ from ⟨hbx.cells.1, hbx.cells.2.1, hbx.cells.2.2, hc2⟩);have hk4 : ∀ {W w1 : World} {v0 v1 v2 v3 : Value}, Below W.heap.size W w1 → w.heap.size < W.heap.size → b < W.heap.size → (W.cell? ⟨w.heap.size, 0, none⟩ = some v0 ∧ W.cell? ⟨w.heap.size, 1, none⟩ = some v1 ∧ W.cell? ⟨w.heap.size, 2, none⟩ = some v2 ∧ W.cell? ⟨b, o + k, none⟩ = some v3) →
     w1.cell? ⟨w.heap.size, 0, none⟩ = some v0 ∧ w1.cell? ⟨w.heap.size, 1, none⟩ = some v1 ∧ w1.cell? ⟨w.heap.size, 2, none⟩ = some v2 ∧ w1.cell? ⟨b, o + k, none⟩ = some v3 := fun h1 h2 h3 h4 =>
    have := keep3 h1 h2 ⟨h4.1, h4.2.1, h4.2.2.1⟩
    ⟨this.1, this.2.1, this.2.2, (h1.cell (p := ⟨b, o + k, none⟩) h3).trans h4.2.2.2⟩
   replace hk4 := fun {W w1 : World} {v0 v1 v2 v3 : Value} a1 a2 a3 a4 => Lib.hid (@hk4 W w1 v0 v1 v2 v3 a1 a2 a3 a4)
   clear hc hs hy hbx hc2;go_wp2_with (fail);go_region_held3 (fun w' => w'.cell? ⟨w.heap.size, 0, none⟩ = some (.int .i64 D.p) ∧ w'.cell? ⟨w.heap.size, 1, none⟩ = some (.int .i64 D.m) ∧ w'.cell? ⟨w.heap.size, 2, none⟩ = some (.slice A D.mod.length c) ∧ w'.cell? ⟨b, o + k, none⟩ = some (.int .i64 y)) (first | exact hcc.out | exact hcc1.out | exact hcc2.out)
    (first
     | (go_at_call 52; (with_reducible refine (hM2 _ hrr.drew).out.mono ?_); rintro e w1 ⟨rfl, hb1⟩; have hcc1 := hk4 hb1 hsz hbo hcc.out; have hs1 : wr.heap.size ≤ w1.heap.size := hb1.size; have hbw1 := (hbw.drew).trans (hb1.mono hbw.size))
     | (go_at_call 113; (with_reducible refine (hA2 _).out.mono ?_); rintro e w2 ⟨rfl, hb2⟩; have hcc2 := hk4 hb2 (Nat.lt_of_lt_of_le hsz hs1) (Nat.lt_of_lt_of_le hbo hs1) hcc1.out; have hbw2 := hbw1.trans (hb2.mono hbw1.size)))
   have hs2 : w.heap.size < w2.heap.size := Nat.lt_of_lt_of_le (Nat.lt_of_lt_of_le hsz hs1) hb2.size;have hbx2 : Bx w2 w.heap.size D A D.mod.length c := ⟨hcc2.out.1, hcc2.out.2.1, hcc2.out.2.2.1⟩;have hrr2 := (hr.below hbw2).more hbw2.size;obtain ⟨q0, q1, q2⟩ := hbx2.cells;go_wp2_with (fail);(with_reducible refine (hM3 _ hrr2).out.mono ?_);rintro e w3 ⟨rfl, hb3⟩;clear q0 q1 q2;go_wp2_with (fail);go_roundw
   case rel => exact ⟨k + 1, by omega, by go_num, rfl, rfl, hbx2.below hb3 hs2, hbw2.trans (hb3.mono hbw2.size), Nat.lt_of_lt_of_le hs2 hb3.size⟩
   case measure => simp [intOf]; omega
  ·obtain rfl : k = l.length := by omega
   go_wp2_with (fail);go_ret;exact ⟨rfl, hbw⟩
end
section
open Go.RowKit Cw

theorem step_app1V {w : World} {ops : Array Oper} {o : Oper} {a : Act} {K : Act → World → Prop} {Q : Exit → Act → World → Prop} {E : Prop} (hgd : o.guard = none) (s x : Operand)
  (ho : o.op = .call { callee := .builtin .append, args := #[s, x], argTypes := #[25, 25] })
  (B : Nat) (v : Value) (l : List Value) (y : Value) (hy : y.oneCell' = true) (hown : OwnV w B v l) (hs : a.eval s = v) {H : Nat} (hx : a.eval x = .slice (some ⟨H, 0, none⟩) 1 1) (hH : w.heap.size = H)
  (hl : l.length ≤ 1000000) (hB : B ≤ w.heap.size)
  (h : ∀ v' w', OwnV w' B v' (l ++ [y]) → Below B w w' → w.grownBy w' v.ownBlock → (v'.ownBlock = v.ownBlock ∨ (∀ k, v'.ownBlock = some k → w.heap.size ≤ k)) → K (a.put o.dst v') w') :
  if Region.wanted o (yielded ops a.tmps) = true then Oper.wp Tryz.prog o a (w.alloc (.cells #[y] 22)) K Q else E := by
 have hw : Region.wanted o (yielded ops a.tmps) = true := by simp [Region.wanted, hgd]
 rw [if_pos hw];subst hH;obtain ⟨i0, hi, hz0, hz1, hz2⟩ := info_parts infoInts;obtain ⟨v', w', hrun, h2, h3, _, h5⟩ := run_append_own_at (P := Tryz.prog) (w.alloc (.cells #[y] 22)) B 25 o.type 22 i0 (.slice none 0 0) 1 24 Tryz.underlying25 hi hz0 hz1 hz2 rfl (by decide) v l.length l (World.ownsRow.alloc hown _)
  ⟨w.heap.size, 0, none⟩ 1 1 [y] rfl (cell_one_new _ _ _) (by simp [hy]) (by simp only [maxLen]; omega) (by omega) (by simp; omega)
 unfold Oper.wp execOp;simp only [ho, resolve, invoke, builtin, Sem.run_bind, Sem.run_pure, Result.andThen_ok, List.map_toArray, List.map_cons, List.map_nil, hs, hx, hrun];have hg : w.grownBy w' v.ownBlock := ⟨h3.os, h3.tape, h3.output, Nat.le_trans (by simp) h3.size, fun k hk hne => (h3.block k (by simp; omega) hne).trans (Below.heap_alloc _ _ _ hk)⟩;refine h v' w' (by unfold OwnV; rw [List.length_append]; exact h2) ⟨hg.os, hg.tape, hg.output, hg.size, fun k hk => hg.block k (by omega) (fun e => by have := (World.ownsRow.lt hown k e.symm).1; omega)⟩ hg ?_;rcases h5 with h5 | h5
 ·exact .inl h5
 ·right; intro k hk; rw [h5] at hk; cases hk; simp
end
section
open Go.RowKit Cw
attribute [local go_sem] Oper.semAt_some

theorem OwnM.kept {w w' : World} {B n b : Nat} {v : Value} {rows : Nat → List Int} (h : OwnM w B v n rows) (hg : w.grownBy w' (some b)) (hb : b < B) : OwnM w' B v n rows := by
 obtain ⟨hs, h1, h2, h3⟩ := h;refine ⟨hs, h1, World.ownsRow.kept h2 hg (.inr fun e => by have := (World.ownsRow.lt h2 _ e).1; omega), fun i hi => ?_⟩;obtain ⟨Ai, ci', a1, a2, a3, a4, a5⟩ := h3 i hi;refine ⟨Ai, ci', a1, fun hn => ?_, a3, a4, a5⟩;obtain ⟨b2, off, e, hbl, hcell⟩ := a2 hn;have h5 := (a5 (List.length_pos_iff.1 hn) _ e).2;exact ⟨b2, off, e, Nat.lt_of_lt_of_le hbl hg.size, fun j hj => hg.cell (hcell j hj) fun e2 => by
  have h6 : b2 = b := by injection e2
  have h7 : B ≤ b2 := h5;omega⟩

end
section
open Go.ChangeShapes Go.WideShapes Go.ChangeAt Go.RowKit Go.Joins Go.Deep

section
variable {H : Type} {enc : TypeId × Value → H} {W : World} {base : Nat}
set_option maxRecDepth 100000 in
theorem arg_ints {v : Value} {d : DataW H} {p : List MemPlace} (hv : Value.okWide Tryz.prog W .any base 22 v) (h : DataW.Trod enc Tryz.prog W 0 (fun _ => true) true 22 v d p) (hlt : ∀ x ∈ p, x.block < W.heap.size) :
  ∃ (A : Option Addr) (l : List Int) (c : Nat), v = .slice A l.length c ∧ l.length ≤ c ∧ c ≤ maxLen ∧ (∀ x ∈ l, I64 x) ∧ Rd W W.heap.size A l := by
 obtain ⟨a, n, c, rfl⟩ := okWide_slice ty_ints hv;obtain ⟨fuel, hf⟩ := h;obtain ⟨A, l, c', e, h1, h2, h3, h4⟩ := cell_ints (v := .slice a n c) hf hlt;exact ⟨A, l, c', e, h1, h2, h3, h4⟩
end
end
section
open Go.ChangeShapes Go.WideShapes Go.ChangeAt Go.RowKit Go.Joins Go.Deep

section
variable {H : Type} {enc : TypeId × Value → H} {W : World} {base : Nat}
theorem cells_ints' : Tryz.prog.cellsOf 22 = 1 := by kernel_rfl
end
end
section
open Cw
open Cw.CField (inv)

def wgt (l : List Int) : Nat := (l.filter fun x => x != 0).length
theorem wgt_append (l m : List Int) : wgt (l ++ m) = wgt l + wgt m := by unfold wgt; rw [List.filter_append, List.length_append]
theorem wgt_zero {l : List Int} (h : ∀ x ∈ l, x = 0) : wgt l = 0 := by
 unfold wgt;rw [List.filter_eq_nil_iff.2 (fun x hx => by simp [h x hx])]; rfl
theorem wgt_take (l : List Int) {k : Nat} (h : k < l.length) : wgt (l.take (k + 1)) = wgt (l.take k) + if l[k]?.getD 0 = 0 then 0 else 1 := by
 rw [List.take_succ_eq_append_getElem h, wgt_append]
 congr 1
 rw [List.getElem?_eq_getElem h];unfold wgt;by_cases e : l[k] = 0 <;> simp [e]
theorem wgt_le (l : List Int) : wgt l ≤ l.length := List.length_filter_le _ _
theorem eli_inj {D : Desc} {x y : Int} (hx : 0 ≤ x ∧ x < D.q) (hy : 0 ≤ y ∧ y < D.q) (h : eli D x = eli D y) : x = y := by rw [← ci_eli_in hx, ← ci_eli_in hy, h]
theorem eli_ne {D : Desc} {x : Int} (hx : 0 ≤ x ∧ x < D.q) (h : x ≠ 0) : eli D x ≠ 0 := fun e => h (by rw [← ci_eli_in hx, e, ci_zero])
theorem nodup_get {l : List Int} (h : twB l = false) {i j : Nat} (hi : i < l.length) (hj : j < l.length) (e : l[i]?.getD 0 = l[j]?.getD 0) : i = j := by
 rcases Nat.lt_trichotomy i j with h1 | h1 | h1
 ·rw [twB_yes h1 hj e.symm] at h; cases h
 ·exact h1
 ·rw [twB_yes h1 hi e] at h; cases h
theorem mem_get {l : List Int} {i : Nat} (hi : i < l.length) : l[i]?.getD 0 ∈ l := by rw [List.getElem?_eq_getElem hi]; exact List.getElem_mem _

section
variable {F : FD}
end
end
section
open Cw
open Cw.CField (inv)

section
variable {F : FD}
end
end
section
open Cw
open Cw.CField (inv)
section
variable {F : FD}
theorem pts_inj {pts : List Int} (hp : elB F.toDesc pts = true) (ht : twB pts = false) : ∀ i j, i < pts.length → j < pts.length → eli F.toDesc (pts[i]?.getD 0) = eli F.toDesc (pts[j]?.getD 0) → i = j :=
 fun i j hi hj e => nodup_get ht hi hj (eli_inj (elB_iff.1 hp i hi) (elB_iff.1 hp j hj) e)
end
end
section
open Go.RowKit Cw
attribute [local go_sem] Oper.semAt_some

section
variable {W W' : World} {bd : Nat} {u0 u1 u2 u3 v1 v2 u : Value} {l1 l2 l' : List Int}
end
theorem take_succ_mem {l : List Int} {k : Nat} (hk : k < l.length) (x : Int) : x ∈ l.take (k + 1) ↔ x ∈ l.take k ∨ x = l[k]?.getD 0 := by
 rw [List.take_succ_eq_append_getElem hk, List.mem_append, List.mem_singleton, List.getElem?_eq_getElem hk, Option.getD_some]
theorem take_succ_nodup {l : List Int} {k : Nat} (hk : k < l.length) (h : (l.take k).Nodup) (hn : ¬ l[k]?.getD 0 ∈ l.take k) : (l.take (k + 1)).Nodup := by
 rw [List.take_succ_eq_append_getElem hk, List.nodup_append];rw [List.getElem?_eq_getElem hk, Option.getD_some] at hn;refine ⟨h, by simp, fun x hx y hy e => hn ?_⟩;have : y = l[k] := by simpa using hy
 rw [← this, ← e]; exact hx
theorem not_nodup_take {l : List Int} {k : Nat} (hk : k < l.length) (hn : l[k]?.getD 0 ∈ l.take k) : ¬ l.Nodup := fun h => by
 have h2 : (l.take (k + 1)).Nodup := List.Pairwise.sublist (List.take_sublist _ _) h;rw [List.take_succ_eq_append_getElem hk, List.nodup_append] at h2;rw [List.getElem?_eq_getElem hk, Option.getD_some] at hn;exact h2.2.2 _ hn _ (List.mem_singleton.2 rfl) rfl
theorem seen_step {l : List Int} {k x : Nat} (hk : k < l.length) (hx : l[k]?.getD 0 = (x : Int)) : (fun i : Nat => if i = x then true else decide ((i : Int) ∈ l.take k)) = fun i : Nat => decide ((i : Int) ∈ l.take (k + 1)) := funext fun i => by
 by_cases e : i = x
 ·rw [if_pos e]; exact (decide_eq_true ((take_succ_mem hk _).2 (.inr (by rw [hx, e])))).symm
 ·rw [if_neg e];by_cases h : (i : Int) ∈ l.take k
  ·rw [decide_eq_true h, decide_eq_true ((take_succ_mem hk _).2 (.inl h))]
  ·rw [decide_eq_false h, decide_eq_false fun h2 => ?_];rcases (take_succ_mem hk _).1 h2 with h3 | h3
   ·exact h h3
   ·rw [hx] at h3; exact e (by omega)

end
section
open Go.RowKit Cw

set_option maxHeartbeats 1000000 in
theorem Elems18_any (D : Desc) (msg : List Int) (K e0 : Int) (A A3 : Option Addr) (c c3 : Nat) (w : World) (hr3 : Rd w w.heap.size A3 msg) (h3 : msg.length ≤ maxLen) :
  Calls Tryz.prog 101 #[.agg #[.int .i64 D.p, .int .i64 D.m, .slice A D.mod.length c], .slice A3 msg.length c3, .int .i64 K, .int .i64 e0] w fun e w' => e = .returned (.int .i64 (elErr D msg K e0)) ∧ Below w.heap.size w w' := by
 have hm3 := h3;unfold maxLen at hm3;have hI := fun x W => Is_any D x A D.mod.length c W
 have hbx0 := Bx.new w D A D.mod.length c 24;have hB0 : Below w.heap.size w (w.alloc (.cells #[.int .i64 D.p, .int .i64 D.m, .slice A D.mod.length c] 24)) := (Below.refl _ _).alloc (Nat.le_refl _) _;by_cases hK : (msg.length : Int) = K;rotate_left
 ·have hv : Hid (elErr D msg K e0 = e0) := if_pos hK;have hKb : ((msg.length : Int) != K) = true := by rw [bne_iff_ne]; exact hK
  clear hK;go_enter Tryz.func101, Tryz.ntmps101;go_wp2_with (fail);go_ret;exact ⟨by rw [hv.out]; rfl, hB0⟩
 have hv0 : Hid (elErr D msg K e0 = if elB D msg = false then 2 else 0) := if_neg (not_not_intro hK);subst hK;go_enter Tryz.func101, Tryz.ntmps101;go_wp2_with (fail);go_loopw [9] (fun i wr => ∃ k : Nat, k ≤ msg.length ∧ i = .int .i64 k ∧ Hid (∀ j, j < k → 0 ≤ msg[j]?.getD 0 ∧ msg[j]?.getD 0 < (D.q : Int)) ∧ Bx wr w.heap.size D A D.mod.length c ∧ Below w.heap.size w wr ∧ w.heap.size < wr.heap.size) (fun i _ => msg.length - (intOf i).toNat)
 case atStart => exact ⟨0, by omega, rfl, fun j hj => absurd hj (by omega), hbx0, hB0, by simp⟩
 case round =>
  clear hbx0 hB0;obtain ⟨w2, rfl⟩ : ∃ w2 : World, w2 = wr := ⟨_, rfl⟩;obtain ⟨k, hk, rfl, hall, hbx, hB2, hns2⟩ := hrel;by_cases hlt : k < msg.length
  ·have hk0 : (0 : Int) ≤ (k : Int) := by omega
   have hk1 : (k : Int) < (msg.length : Int) := by omega
   obtain ⟨b, o, rfl, hb, hc⟩ := hr3.at_ hlt;have hd := (hB2.cell (p := ⟨b, o + k, none⟩) hb).trans hc;have hb' := Nat.lt_of_lt_of_le hb hB2.size;have hI2 := fun W => hI (msg[k]?.getD 0) W
   by_cases hy : 0 ≤ msg[k]?.getD 0 ∧ msg[k]?.getD 0 < (D.q : Int)
   ·have hall2 : Hid (∀ j, j < k + 1 → 0 ≤ msg[j]?.getD 0 ∧ msg[j]?.getD 0 < (D.q : Int)) := fun j hj => by
     by_cases e : j = k
     ·subst e; exact hy
     ·exact hall.out j (by omega)
    rw [decide_eq_true hy] at hI2;replace hI2 := fun W => Lib.hid (hI2 W)
    clear hy hc;generalize msg[k]?.getD 0 = y at *;have hcc := Lib.hid (show _ ∧ _ ∧ _ ∧ _ from ⟨hbx.cells.1, hbx.cells.2.1, hbx.cells.2.2, hd⟩);clear hd;go_wp2_with (fail);go_region_held3 (fun w' => w'.cell? ⟨w.heap.size, 0, none⟩ = some (.int .i64 D.p) ∧ w'.cell? ⟨w.heap.size, 1, none⟩ = some (.int .i64 D.m) ∧ w'.cell? ⟨w.heap.size, 2, none⟩ = some (.slice A D.mod.length c) ∧ w'.cell? ⟨b, o + k, none⟩ = some (.int .i64 y)) (first | exact hcc.out | exact hcc1.out)
     (first
      | (go_at_call 51; (with_reducible refine (hI2 _).out.mono ?_); rintro e w3 ⟨rfl, hb3⟩; have hcc1 := Lib.hid (show _ ∧ _ ∧ _ ∧ _ from ⟨(keep3 hb3 hns2 ⟨hcc.out.1, hcc.out.2.1, hcc.out.2.2.1⟩).1, (keep3 hb3 hns2 ⟨hcc.out.1, hcc.out.2.1, hcc.out.2.2.1⟩).2.1, (keep3 hb3 hns2 ⟨hcc.out.1, hcc.out.2.1, hcc.out.2.2.1⟩).2.2, (hb3.cell (p := ⟨b, o + k, none⟩) hb').trans hcc.out.2.2.2⟩)))
    go_wp2_with (fail);go_roundw
    case rel => exact ⟨k + 1, by omega, by go_num, hall2, ⟨hcc1.out.1, hcc1.out.2.1, hcc1.out.2.2.1⟩, hB2.drew.trans (hb3.mono hB2.size), Nat.lt_of_lt_of_le hns2 hb3.size⟩
    case measure => simp [intOf]; omega
   ·have hv : Hid (elErr D msg msg.length e0 = 2) := hv0.out.trans (if_pos (elB_no hlt hy));rw [decide_eq_false hy] at hI2;replace hI2 := fun W => Lib.hid (hI2 W)
    clear hy hc;generalize msg[k]?.getD 0 = y at *;have hcc := Lib.hid (show _ ∧ _ ∧ _ ∧ _ from ⟨hbx.cells.1, hbx.cells.2.1, hbx.cells.2.2, hd⟩);clear hd;go_wp2_with (fail);go_region_held3 (fun w' => w'.cell? ⟨w.heap.size, 0, none⟩ = some (.int .i64 D.p) ∧ w'.cell? ⟨w.heap.size, 1, none⟩ = some (.int .i64 D.m) ∧ w'.cell? ⟨w.heap.size, 2, none⟩ = some (.slice A D.mod.length c) ∧ w'.cell? ⟨b, o + k, none⟩ = some (.int .i64 y)) (first | exact hcc.out | exact hcc1.out)
     (first
      | (go_at_call 51; (with_reducible refine (hI2 _).out.mono ?_); rintro e w3 ⟨rfl, hb3⟩; have hcc1 := Lib.hid (show _ ∧ _ ∧ _ ∧ _ from ⟨(keep3 hb3 hns2 ⟨hcc.out.1, hcc.out.2.1, hcc.out.2.2.1⟩).1, (keep3 hb3 hns2 ⟨hcc.out.1, hcc.out.2.1, hcc.out.2.2.1⟩).2.1, (keep3 hb3 hns2 ⟨hcc.out.1, hcc.out.2.1, hcc.out.2.2.1⟩).2.2, (hb3.cell (p := ⟨b, o + k, none⟩) hb').trans hcc.out.2.2.2⟩)))
    go_wp2_with (fail);go_ret;exact ⟨by rw [hv.out]; rfl, hB2.drew.trans (hb3.mono hB2.size)⟩
  ·obtain rfl : k = msg.length := by omega
   have hv : Hid (elErr D msg msg.length e0 = 0) := hv0.out.trans (if_neg (by rw [elB_iff.2 hall.out]; simp));go_wp2_with (fail);go_ret;exact ⟨by rw [hv.out]; rfl, hB2⟩
end
section
open Go.RowKit Cw
attribute [local go_sem] Oper.semAt_some

set_option maxHeartbeats 1000000 in
theorem Weight18_any (l : List Int) (A : Option Addr) (c : Nat) (w : World) (hr : Rd w w.heap.size A l) (hl : l.length ≤ maxLen) :
  Calls Tryz.prog 37 #[.slice A l.length c] w fun e w' => e = .returned (.int .i64 (wgt l)) ∧ w = w' := by
 unfold maxLen at hl;go_enter Tryz.func37, Tryz.ntmps37;go_wp2_with (fail);go_loop [4, 3] (fun i n => ∃ k : Nat, k ≤ l.length ∧ i = .int .i64 k ∧ n = .int .i64 (wgt (l.take k))) (fun i _ => l.length - (intOf i).toNat)
 case atStart => exact ⟨0, by omega, rfl, rfl⟩
 case round =>
  obtain ⟨k, hk, rfl, rfl⟩ := hrel;have hle := wgt_le (l.take k);rw [List.length_take] at hle;by_cases hlt : k < l.length
  ·obtain ⟨b, o, rfl, -, hc⟩ := hr.at_ hlt;have hs := wgt_take l hlt;obtain ⟨y, hy⟩ : ∃ y, y = l[k]?.getD 0 := ⟨_, rfl⟩;rw [← hy] at hc hs;by_cases hz : y = 0
   ·rw [if_pos hz, Nat.add_zero] at hs;have hzb : (y != 0) = false := by rw [bne_eq_false_iff_eq]; exact hz
    replace hs := Lib.hid hs;clear hy hz;go_wp2_with (fail);go_round
    case rel => exact ⟨k + 1, by omega, by go_num, by rw [hs.out]; rfl⟩
    case measure => simp [intOf]; omega
   ·rw [if_neg hz] at hs;have hzb : (y != 0) = true := by rw [bne_iff_ne]; exact hz
    replace hs := Lib.hid hs;clear hy hz;go_wp2_with (fail);go_round
    case rel => exact ⟨k + 1, by omega, by go_num, by rw [hs.out]; go_num⟩
    case measure => simp [intOf]; omega
  ·obtain rfl : k = l.length := by omega
   go_wp2_with (fail);go_ret;exact ⟨rfl, rfl⟩

end
section
open Go.ChangeShapes Go.WideShapes Go.ChangeAt Go.RowKit Go.Joins Go.Deep

section
variable {H : Type} {enc : TypeId × Value → H} {W : World} {base : Nat}
theorem cells_fieldC {n : Nat} {c0 c1 c2 : Value} {y : DataW H × List MemPlace} (h : DataW.trod enc Tryz.prog W 0 (fun _ => true) true n 24 [c0, c1, c2] = some y) (hlt : ∀ x ∈ y.2, x.block < W.heap.size) :
  ∃ (p m : Int) (A : Option Addr) (l : List Int) (c : Nat), c0 = .int .i64 p ∧ c1 = .int .i64 m ∧ c2 = .slice A l.length c ∧ I64 p ∧ I64 m ∧ l.length ≤ maxLen ∧ Rd W W.heap.size A l := by
 obtain ⟨f0, f1, f2, hs, t0, t1, t2, hone, hC⟩ := ty_field;obtain ⟨o0, k0⟩ := hone_of hone 0 f0 rfl;obtain ⟨o1, k1⟩ := hone_of hone 1 f1 rfl;obtain ⟨o2, k2⟩ := hone_of hone 2 f2 rfl;obtain ⟨y0, y1, y2, n', hx, -, h0, h1, h2⟩ := trod_struct3 hs h;simp only [o0, o1, o2, k0, k1, k2] at h0 h1 h2;rw [t0] at h0; rw [t1] at h1; rw [t2] at h2;subst hx;obtain ⟨x0, rfl, i0⟩ := cell_int (v := c0) h0;obtain ⟨x1, rfl, i1⟩ := cell_int (v := c1) h1;obtain ⟨A, l, c, rfl, hl, hm, hi, hr⟩ := cell_ints (v := c2) h2 fun x hx => hlt x (by simp [hx])
 exact ⟨x0, x1, A, l, c, rfl, rfl, rfl, i0, i1, by omega, hr⟩
theorem cells_fieldT5 : Tryz.prog.cellsOf 24 = 3 := by kernel_rfl
end
end
section
open Go.ChangeShapes Go.WideShapes Go.ChangeAt Go.RowKit Go.Joins Go.Deep

section
variable {H : Type} {enc : TypeId × Value → H} {W : World} {base : Nat}
theorem array8 {α : Type} {cs : Array α} (h : cs.size = 8) : ∃ c0 c1 c2 c3 c4 c5 c6 c7, cs = #[c0, c1, c2, c3, c4, c5, c6, c7] := by
 obtain ⟨l⟩ := cs
 match l, h with
 | [c0, c1, c2, c3, c4, c5, c6, c7], _ => exact ⟨c0, c1, c2, c3, c4, c5, c6, c7, rfl⟩
theorem ty_gop : ∃ f0 f1 f2 f3 : Field, Tryz.prog.underlying 44 = some (.struct #[f0, f1, f2, f3]) ∧ (f0.type = 24 ∧ f0.offset = 0) ∧ (f1.type = 24 ∧ f1.offset = 3) ∧ (f2.type = 22 ∧ f2.offset = 6) ∧ (f3.type = 22 ∧ f3.offset = 7) :=
 ⟨_, _, _, _, Tryz.underlying44, ⟨rfl, rfl⟩, ⟨rfl, rfl⟩, ⟨rfl, rfl⟩, ⟨rfl, rfl⟩⟩
theorem cells_gop : Tryz.prog.cellsOf 44 = 8 := by kernel_rfl
set_option maxRecDepth 100000 in
theorem arg_gop {v : Value} {d : DataW H} {p : List MemPlace} (hv : Value.okWide Tryz.prog W .any base 44 v) (h : DataW.Trod enc Tryz.prog W 0 (fun _ => true) true 44 v d p) (hlt : ∀ x ∈ p, x.block < W.heap.size) :
  ∃ (P M Q N : Int) (A B C D : Option Addr) (ml nl poly pts : List Int) (c b k e : Nat), v = .agg #[.int .i64 P, .int .i64 M, .slice A ml.length c, .int .i64 Q, .int .i64 N, .slice B nl.length b, .slice C poly.length k, .slice D pts.length e] ∧
   I64 P ∧ I64 M ∧ I64 Q ∧ I64 N ∧ ml.length ≤ maxLen ∧ nl.length ≤ maxLen ∧ (poly.length ≤ k ∧ k ≤ maxLen) ∧ (pts.length ≤ e ∧ e ≤ maxLen) ∧ (∀ x ∈ poly, I64 x) ∧ (∀ x ∈ pts, I64 x) ∧ Rd W W.heap.size A ml ∧ Rd W W.heap.size B nl ∧ Rd W W.heap.size C poly ∧ Rd W W.heap.size D pts := by
 obtain ⟨f0, f1, f2, f3, hs, ⟨t0, o0⟩, ⟨t1, o1⟩, ⟨t2, o2⟩, ⟨t3, o3⟩⟩ := ty_gop;obtain ⟨cs, rfl, hsz⟩ := okWide_struct hs hv;obtain ⟨c0, c1, c2, c3, c4, c5, c6, c7, rfl⟩ := array8 (hsz.trans cells_gop);obtain ⟨fuel, hf⟩ := h;obtain ⟨xs, n, _, hx, _, hlen, hg⟩ := DataW.trod_struct hs hf
 match xs, hlen with
 | [y0, y1, y2, y3], _ =>
  have g0 := hg 0 f0 rfl;have g1 := hg 1 f1 rfl;have g2 := hg 2 f2 rfl;have g3 := hg 3 f3 rfl;rw [t0, o0, cells_fieldT5] at g0;rw [t1, o1, cells_fieldT5] at g1;rw [t2, o2, cells_ints'] at g2;rw [t3, o3, cells_ints'] at g3;simp only [Prod.mk.injEq] at hx;have hp := hx.2;obtain ⟨P, M, A, ml, c, rfl, rfl, rfl, i0, i1, hl, hr⟩ := cells_fieldC (c0 := c0) (c1 := c1) (c2 := c2) g0 fun x hx => hlt x (by rw [hp]; simp [hx])
  obtain ⟨Q, N, B, nl, b, rfl, rfl, rfl, i2, i3, hl2, hr2⟩ := cells_fieldC (c0 := c3) (c1 := c4) (c2 := c5) g1 fun x hx => hlt x (by rw [hp]; simp [hx])
  obtain ⟨C, poly, k, rfl, a1, b1, d1, r1⟩ := cell_ints (v := c6) g2 fun x hx => hlt x (by rw [hp]; simp [hx])
  obtain ⟨D, pts, e, rfl, a2, b2, d2, r2⟩ := cell_ints (v := c7) g3 fun x hx => hlt x (by rw [hp]; simp [hx])
  exact ⟨P, M, Q, N, A, B, C, D, ml, nl, poly, pts, c, b, k, e, rfl, i0, i1, i2, i3, hl, hl2, ⟨a1, b1⟩, ⟨a2, b2⟩, d1, d2, hr, hr2, r1, r2⟩
end
end
end Go.Proofs.YtakonlfojblcmaaGreat
