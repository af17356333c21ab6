/- The error of a Goppa description, as a number; the program's elements of layer 19, and fields that do not fit. Plain law of layer 18: the weights of codewords, the dual description. No Go here. Plain law of layer 18: the dual description and its dual. No Go here. Plain law of layer 18: codewords are orthogonal to those of the dual description. No Go here. The generator's rows are independent: the rank is the dimension. Layer 18: Puncture of the program, Without of the reference. The reference's check of a Goppa description. grs.Generator. Layer 39 of the program: Syndromes. -/
import Derived.BigQuiet
import Derived.IntWalk
import Derived.Lib.AppendZerosOnto
import Derived.Test.YtjdoneanohhkmaaGreatZqV04RP1
import Derived.Test.YtjdoneanohhkmaaGreatZqV04REmbL
import Derived.Test.YtjdoneanohhkmaaGreatZqV04RLA
import Derived.Test.YtjdoneanohhkmaaGreatZqV04RMat
import Derived.Test.YtjdoneanohhkmaaGreatZqV04RMH
import Derived.Test.YtjdoneanohhkmaaGreatZqV04RKnlP
import Derived.Test.YtjdoneanohhkmaaGreatZqV04RPoR
import Derived.Test.YtjdoneanohhkmaaGreatZqV04RAltF
import Derived.Test.YtjdoneanohhkmaaGreatZqV04RMatY
import Derived.Test.YtjdoneanohhkmaaGreatZqV04RGrsB
import Derived.Test.YtjdoneanohhkmaaGreatZqV04RGrsC
import Derived.Test.YtjdoneanohhkmaaGreatZqV04RGrsH
import Derived.Test.YtjdoneanohhkmaaGreatZqV04RDivW
import Derived.Test.YtjdoneanohhkmaaGreatZqV04RGrsE2
namespace Go.Proofs.YtjdoneanohhkmaaGreat
section
open Go.RowKit Cw
attribute [local go_sem] Oper.semAt_some

def fitB (S F : Desc) : Bool := decide (S.p = F.p) && divB F.m S.m
def valL (D : Desc) (poly pts : List Int) : List Int := lst pts.length fun i => ci (pevI D poly (eli D (pts[i]?.getD 0)))
def gopD (S D : Desc) (poly pts : List Int) : Int :=
 if fitB S D = false then 10 else if pts.length < 1 ∨ 64 < pts.length then 4 else if elB D pts = false ∨ elB D poly = false then 2 else if twB pts = true then 18
 else if poly.length < 2 ∨ 65 < poly.length ∨ poly[poly.length - 1]?.getD 0 = 0 then 5 else if (0 : Int) ∈ valL D poly pts then 7 else 0
section
variable {S D : Desc} {poly pts : List Int}
theorem gopD_fit (h : fitB S D = false) : gopD S D poly pts = 10 := if_pos h
theorem gopD_len (h : fitB S D = true) (h1 : pts.length < 1 ∨ 64 < pts.length) : gopD S D poly pts = 4 := by unfold gopD; rw [if_neg (by rw [h]; decide),if_pos h1]
theorem gopD_el (h : fitB S D = true) (h1 : ¬ (pts.length < 1 ∨ 64 < pts.length)) (h2 : elB D pts = false ∨ elB D poly = false) : gopD S D poly pts = 2 := by unfold gopD; rw [if_neg (by rw [h]; decide),if_neg h1,if_pos h2]
theorem gopD_tw (h : fitB S D = true) (h1 : ¬ (pts.length < 1 ∨ 64 < pts.length)) (h2 : ¬ (elB D pts = false ∨ elB D poly = false)) (h3 : twB pts = true) : gopD S D poly pts = 18 := by unfold gopD; rw [if_neg (by rw [h]; decide),if_neg h1,if_neg h2,if_pos h3]
theorem gopD_form (h : fitB S D = true) (h1 : ¬ (pts.length < 1 ∨ 64 < pts.length)) (h2 : ¬ (elB D pts = false ∨ elB D poly = false)) (h3 : twB pts = false) (h4 : poly.length < 2 ∨ 65 < poly.length ∨ poly[poly.length - 1]?.getD 0 = 0) : gopD S D poly pts = 5 := by unfold gopD; rw [if_neg (by rw [h]; decide),if_neg h1,if_neg h2,if_neg (by rw [h3]; decide),if_pos h4]
theorem gopD_root (h : fitB S D = true) (h1 : ¬ (pts.length < 1 ∨ 64 < pts.length)) (h2 : ¬ (elB D pts = false ∨ elB D poly = false)) (h3 : twB pts = false) (h4 : ¬ (poly.length < 2 ∨ 65 < poly.length ∨ poly[poly.length - 1]?.getD 0 = 0)) (h5 : (0 : Int) ∈ valL D poly pts) : gopD S D poly pts = 7 := by unfold gopD; rw [if_neg (by rw [h]; decide),if_neg h1,if_neg h2,if_neg (by rw [h3]; decide),if_neg h4,if_pos h5]
theorem gopD_ok (h : fitB S D = true) (h1 : ¬ (pts.length < 1 ∨ 64 < pts.length)) (h2 : ¬ (elB D pts = false ∨ elB D poly = false)) (h3 : twB pts = false) (h4 : ¬ (poly.length < 2 ∨ 65 < poly.length ∨ poly[poly.length - 1]?.getD 0 = 0)) (h5 : ¬ (0 : Int) ∈ valL D poly pts) : gopD S D poly pts = 0 := by unfold gopD; rw [if_neg (by rw [h]; decide),if_neg h1,if_neg h2,if_neg (by rw [h3]; decide),if_neg h4,if_neg h5]
theorem gopD_zero (h : gopD S D poly pts = 0) : fitB S D = true ∧ (1 ≤ pts.length ∧ pts.length ≤ 64) ∧ elB D pts = true ∧ elB D poly = true ∧ twB pts = false ∧ 2 ≤ poly.length ∧ poly.length ≤ 65 ∧ poly[poly.length - 1]?.getD 0 ≠ 0 ∧ ¬ (0 : Int) ∈ valL D poly pts := by
 cases hf : fitB S D with
 | false => rw [gopD_fit hf] at h; cases h
 | true =>
  by_cases h1 : pts.length < 1 ∨ 64 < pts.length
  ·rw [gopD_len hf h1] at h; cases h
  by_cases h2 : elB D pts = false ∨ elB D poly = false
  ·rw [gopD_el hf h1 h2] at h; cases h
  cases h3 : twB pts with
  | true => rw [gopD_tw hf h1 h2 h3] at h; cases h
  | false =>
   by_cases h4 : poly.length < 2 ∨ 65 < poly.length ∨ poly[poly.length - 1]?.getD 0 = 0
   ·rw [gopD_form hf h1 h2 h3 h4] at h; cases h
   by_cases h5 : (0 : Int) ∈ valL D poly pts
   ·rw [gopD_root hf h1 h2 h3 h4 h5] at h; cases h
   refine ⟨rfl,by omega,?_,?_,rfl,by omega,by omega,by omega,h5⟩
   ·cases e : elB D pts with
    | true => rfl
    | false => exact absurd (Or.inl e) h2
   ·cases e : elB D poly with
    | true => rfl
    | false => exact absurd (Or.inr e) h2
theorem fitB_iff : fitB S D = true ↔ S.p = D.p ∧ divB D.m S.m = true := by unfold fitB; rw [Bool.and_eq_true,decide_eq_true_iff]
end

set_option maxHeartbeats 1000000 in
theorem aElems_any (D : FD) (l : List Int) (A : Option Addr) (c g : Nat) (w : World) (hg : GF w w.heap.size g D) (hr : Rd w w.heap.size A l) (hl : l.length ≤ maxLen) :
  Calls Tryz.prog 169 #[.pointer (some ⟨g,0,none⟩),.slice A l.length c] w fun e w' => e = .returned (.bool (elB D.toDesc l)) ∧ w = w' := by
 unfold maxLen at hl;have hI := fun x => Lib.hid (gIs_any D x g w hg)
 go_enter Tryz.func169,Tryz.ntmps169;go_wp2_with (fail);go_loop [9,6] (fun i _ => ∃ k : Nat,k ≤ l.length ∧ i = .int .i64 k ∧ Hid (∀ j,j < k → 0 ≤ l[j]?.getD 0 ∧ l[j]?.getD 0 < (D.q : Int))) (fun i _ => l.length - (intOf i).toNat)
 case atStart => exact ⟨0,by omega,rfl,fun j hj => absurd hj (by omega)⟩
 case round =>
  obtain ⟨k,hk,rfl,hall⟩ := hrel;by_cases hlt : k < l.length
  ·obtain ⟨b,o,rfl,-,hc⟩ := hr.at_ hlt;have hI2 := hI (l[k]?.getD 0);by_cases hy : 0 ≤ l[k]?.getD 0 ∧ l[k]?.getD 0 < (D.q : Int)
   ·rw [decide_eq_true hy] at hI2;have hall2 : Hid (∀ j,j < k + 1 → 0 ≤ l[j]?.getD 0 ∧ l[j]?.getD 0 < (D.q : Int)) := fun j hj => by
     by_cases e : j = k
     ·subst e; exact hy
     ·exact hall.out j (by omega)
    clear hy;generalize l[k]?.getD 0 = y at *;go_wp2_with (fail);(with_reducible refine hI2.out.mono ?_);rintro e w1 ⟨rfl,rfl⟩;go_wp2_with (fail);go_round
    case rel => exact ⟨k + 1,by omega,by go_num,hall2⟩
    case measure => simp [intOf]; omega
   ·have hfin := Lib.hid (elB_no hlt hy);rw [decide_eq_false hy] at hI2;clear hy;generalize l[k]?.getD 0 = y at *;go_wp2_with (fail);(with_reducible refine hI2.out.mono ?_);rintro e w1 ⟨rfl,rfl⟩;go_wp2_with (fail);go_ret;exact ⟨ret_bool hfin.out.symm,rfl⟩
  ·obtain rfl : k = l.length := by omega
   have hfin := Lib.hid (elB_iff.2 hall.out);clear hall;go_wp2_with (fail);go_ret;exact ⟨ret_bool hfin.out.symm,rfl⟩

set_option maxRecDepth 100000 in
set_option maxHeartbeats 2000000 in
theorem fit_no (S F : FD) (A : Option Addr) (c g : Nat) (w : World) (hg : GF w w.heap.size g F) (hr : Rd w w.heap.size A (modL S.toDesc)) (hS : Good S.p S.m (modL S.toDesc)) (hno : fitB S.toDesc F.toDesc = false) :
  Calls Tryz.prog 168 #[.agg #[.int .i64 S.p,.int .i64 S.m,.slice A S.mod.length c],.pointer (some ⟨g,0,none⟩)] w fun e w' => e = .returned (.tuple #[.agg #[.int .i64 0,.int .i64 0,.slice none 0 0,.pointer none,.slice none 0 0,.slice none 0 0,.int .i64 0],.int .i64 10]) ∧ Below w.heap.size w w' := by
 have hno2 : ¬ (S.p = F.p ∧ divB F.m S.m = true) := fun h => by rw [fitB_iff.2 h] at hno; cases hno
 have hEm := fun W a b => Lib.hid (tEmbed_no S F A c g W a b hS hno2)
 clear hno hno2;obtain ⟨s,hs⟩ : ∃ s,s = w.heap.size := ⟨_,rfl⟩;obtain ⟨Z,hZ⟩ : ∃ Z,Z = (w.alloc (.cells #[.int .i64 S.p,.int .i64 S.m,.slice A S.mod.length c] 24)).alloc (.cells #[.int .i64 0,.int .i64 0,.slice none 0 0,.pointer none,.slice none 0 0,.slice none 0 0,.int .i64 0] 130) := ⟨_,rfl⟩;have hB : Below w.heap.size w Z := by rw [hZ]; exact ((Below.refl _ _).alloc (Nat.le_refl _) _).alloc (by simp) _
 have hbA : Hid (Bxs Z s [.int .i64 S.p,.int .i64 S.m,.slice A S.mod.length c]) := by rw [hZ,hs]; exact (Bxs.new w _ _).keep ((Below.refl _ _).alloc (Nat.le_refl _) _) (by simp)
 have hbR : Hid (Bxs Z (s + 1) [.int .i64 0,.int .i64 0,.slice none 0 0,.pointer none,.slice none 0 0,.slice none 0 0,.int .i64 0]) := by rw [hZ,hs]; have := Bxs.new (w.alloc (.cells #[.int .i64 S.p,.int .i64 S.m,.slice A S.mod.length c] 24)) [.int .i64 0,.int .i64 0,.slice none 0 0,.pointer none,.slice none 0 0,.slice none 0 0,.int .i64 0] 130; rw [World.size_alloc] at this; exact this
 have hsZ : s + 1 < Z.heap.size := by rw [hZ,hs]; simp
 have hq := hEm Z ((hg.below hB).more hB.size) ((hr.below hB).more hB.size);replace hZ := Lib.hid hZ;clear hEm;go_enter Tryz.func168,Tryz.ntmps168;obtain ⟨a0,a1,a2⟩ := hbA.out.c3;go_wp2_with (fail);rw [← hZ.out];simp only [← hs];have hsw : w.heap.size ≤ s := Nat.le_of_eq hs.symm;replace hs := Lib.hid hs;go_wp2_with (fail);(with_reducible refine hq.out.mono ?_);rintro e w1 ⟨rfl,hb1⟩;clear hq a0 a1 a2;have hB1 := hB.trans (hb1.mono hB.size);have hbR1 := hbR.out.keep hb1 hsZ;obtain ⟨u0,u1,u2,u3,u4,u5,u6⟩ := hbR1.c7;obtain ⟨v0,v1,v2,v3,v4,v5,v6⟩ := hbR1.f7;have hfin : Hid (Below w.heap.size w (stAll w1 (s + 1) 0 [.int .i64 0,.int .i64 0,.slice none 0 0,.pointer none,.slice none 0 0,.slice none 0 0,.int .i64 0])) := stAll_below (by omega) _ _ _ hB1;clear hbR1 hb1 hB;go_wp2_with (fail);exact bodyPost_ret (v := .tuple #[.agg #[.int .i64 0,.int .i64 0,.slice none 0 0,.pointer none,.slice none 0 0,.slice none 0 0,.int .i64 0],.int .i64 10]) (by simp [results,Tryz.results168,go_sem,u0,u1,u2,u3,u4,u5,u6]) rfl ⟨rfl,hfin.out⟩
end
section
open Cw
open Cw.CField (inv)

def wgt (l : List Int) : Nat := (l.filter fun x => x != 0).length
theorem wgt_zero {l : List Int} (h : ∀ x ∈ l,x = 0) : wgt l = 0 := by
 unfold wgt;rw [List.filter_eq_nil_iff.2 (fun x hx => by simp [h x hx])]; rfl
theorem eli_inj {D : Desc} {x y : Int} (hx : 0 ≤ x ∧ x < D.q) (hy : 0 ≤ y ∧ y < D.q) (h : eli D x = eli D y) : x = y := by rw [← ci_eli_in hx,← ci_eli_in hy,h]
theorem eli_ne {D : Desc} {x : Int} (hx : 0 ≤ x ∧ x < D.q) (h : x ≠ 0) : eli D x ≠ 0 := fun e => h (by rw [← ci_eli_in hx,e,ci_zero])
theorem nodup_get {l : List Int} (h : twB l = false) {i j : Nat} (hi : i < l.length) (hj : j < l.length) (e : l[i]?.getD 0 = l[j]?.getD 0) : i = j := by
 rcases Nat.lt_trichotomy i j with h1 | h1 | h1
 ·rw [twB_yes h1 hj e.symm] at h; cases h
 ·exact h1
 ·rw [twB_yes h1 hi e] at h; cases h
theorem mem_get {l : List Int} {i : Nat} (hi : i < l.length) : l[i]?.getD 0 ∈ l := by rw [List.getElem?_eq_getElem hi]; exact List.getElem_mem _

section
variable {F : FD}
theorem pevI_pev (l : List Int) (u : R F.toDesc) : pevI F.toDesc l u = pev (l.map (eli F.toDesc)) u := by
 have e : l.map (eli F.toDesc) = (List.range l.length).map (fun i => eli F.toDesc (l[i]?.getD 0)) := by
  apply List.ext_getElem
  ·simp
  ·intro i h1 h2;have : i < l.length := by simpa using h1
   simp [this]
 rw [e,pev_map];rfl

theorem word_zero {K : Int} {pts mul msg : List Int} (hz : gchkD F.toDesc K pts mul = 0) {i : Nat} (hi : i < pts.length) :
  ci (eli F.toDesc (mul[i]?.getD 0) * pevI F.toDesc msg (eli F.toDesc (pts[i]?.getD 0))) = 0 ↔ pev (msg.map (eli F.toDesc)) (eli F.toDesc (pts[i]?.getD 0)) = 0 := by
 obtain ⟨-,-,hlen,-,hm,-,h0,-,-⟩ := gchkD_zero hz;have h1 := elB_iff.1 hm i (by omega);have h2 : mul[i]?.getD 0 ≠ 0 := fun e => h0 (e ▸ mem_get (by omega))
 rw [ci_eq_zero,pevI_pev];constructor
 ·intro h;rcases mul_eq_zero h with h | h
  ·exact absurd h (eli_ne h1 h2)
  ·exact h
 ·intro h;rw [h]; exact mul_zero _
end
end
section
open Cw
open Cw.CField (inv)

theorem dualL_length (F : FD) (pts mul : List Int) : (dualL F pts mul).length = pts.length := lst_length _ _
theorem dprod_mul (D : Desc) (pts : List Int) (i : Nat) (u : R D) : ∀ k,dprod D pts i u k = u * dprod D pts i 1 k
 | 0 => (mul_one u).symm
 | k + 1 => by
  by_cases h : k = i
  ·rw [show dprod D pts i u (k + 1) = dprod D pts i u k from if_pos h,show dprod D pts i 1 (k + 1) = dprod D pts i 1 k from if_pos h,dprod_mul D pts i u k]
  ·rw [dprod_other _ _ _ h,dprod_other _ _ _ h,dprod_mul D pts i u k,mul_a]
theorem dualL_eq {F F' : FD} (h : F'.toDesc = F.toDesc) (pts mul : List Int) : dualL F' pts mul = dualL F pts mul := by
 obtain ⟨D,g,a,b,c⟩ := F;obtain ⟨D',g',a',b',c'⟩ := F';dsimp only at h;subst h;rfl

section
variable {F : FD}
theorem dprod_ne {pts : List Int} (hp : elB F.toDesc pts = true) (ht : twB pts = false) {i : Nat} (hi : i < pts.length) : ∀ k,k ≤ pts.length → dprod F.toDesc pts i 1 k ≠ 0
 | 0,_ => one_ne (F := R F.toDesc)
 | k + 1,hk => by
  have ih := dprod_ne hp ht hi k (by omega);by_cases h : k = i
  ·rw [show dprod F.toDesc pts i 1 (k + 1) = dprod F.toDesc pts i 1 k from if_pos h]; exact ih
  ·rw [dprod_other _ _ _ h];refine mul_ne_zero (F := R F.toDesc) ih fun e => h ?_
   exact (nodup_get ht hi (by omega) (eli_inj (elB_iff.1 hp i hi) (elB_iff.1 hp k (by omega)) (sub_eq_zero e))).symm
theorem dualV_ne {K : Int} {pts mul : List Int} (hz : gchkD F.toDesc K pts mul = 0) {i : Nat} (hi : i < pts.length) : dprod F.toDesc pts i (eli F.toDesc (mul[i]?.getD 0)) pts.length ≠ 0 := by
 obtain ⟨-,-,hlen,hp,hm,ht,h0,-,-⟩ := gchkD_zero hz;rw [dprod_mul];exact mul_ne_zero (F := R F.toDesc) (eli_ne (elB_iff.1 hm i (by omega)) fun e => h0 (e ▸ mem_get (by omega))) (dprod_ne hp ht hi _ (Nat.le_refl _))
theorem dualL_get {pts mul : List Int} {i : Nat} (hi : i < pts.length) : (dualL F pts mul)[i]?.getD 0 = dualV F pts mul i := lst_get _ hi
theorem dual_chk {K : Int} {pts mul : List Int} (hz : gchkD F.toDesc K pts mul = 0) : gchkD F.toDesc ((pts.length : Int) - K) pts (dualL F pts mul) = 0 := by
 obtain ⟨h1,h64,hlen,hp,hm,ht,h0,hK0,hKn⟩ := gchkD_zero hz;unfold gchkD;rw [dualL_length,if_neg (by omega),if_neg (by omega),if_neg,if_neg (by rw [ht]; simp),if_neg,if_neg (by omega)]
 ·intro hmem;obtain ⟨i,hi,hi2⟩ := List.mem_map.1 (show (0 : Int) ∈ (List.range pts.length).map (dualV F pts mul) from hmem);exact inv_ne_zero (dualV_ne hz (List.mem_range.1 hi)) (ci_eq_zero.1 hi2)
 ·rintro (h3 | h3)
  ·rw [hp] at h3; cases h3
  ·rw [elB_iff.2 fun j hj => ?_] at h3
   ·cases h3
   ·rw [dualL_length] at hj;rw [dualL_get hj];exact ⟨ci_nonneg _,ci_lt _⟩
end
end
section
open Cw
open Cw.CField (inv)
section
variable {F : FD}
theorem dprod_lval (pts : List Int) (i : Nat) : ∀ k,dprod F.toDesc pts i 1 k = lval (fun j => eli F.toDesc (pts[j]?.getD 0)) i (eli F.toDesc (pts[i]?.getD 0)) k
 | 0 => rfl
 | k + 1 => by
  by_cases h : k = i
  ·rw [show dprod F.toDesc pts i 1 (k + 1) = dprod F.toDesc pts i 1 k from if_pos h,show lval (fun j => eli F.toDesc (pts[j]?.getD 0)) i (eli F.toDesc (pts[i]?.getD 0)) (k + 1) = lval (fun j => eli F.toDesc (pts[j]?.getD 0)) i (eli F.toDesc (pts[i]?.getD 0)) k from if_pos h];exact dprod_lval pts i k
  ·rw [dprod_other _ _ _ h,lval_other _ _ h,dprod_lval pts i k]
theorem pts_inj {pts : List Int} (hp : elB F.toDesc pts = true) (ht : twB pts = false) : ∀ i j,i < pts.length → j < pts.length → eli F.toDesc (pts[i]?.getD 0) = eli F.toDesc (pts[j]?.getD 0) → i = j :=
 fun i j hi hj e => nodup_get ht hi hj (eli_inj (elB_iff.1 hp i hi) (elB_iff.1 hp j hj) e)
end
end
section
open Go.RowKit Cw

theorem gM_indep {F : FD} {K : Int} {pts mul : List Int} (hz : gchkD F.toDesc K pts mul = 0) : Indep K.toNat pts.length (gM F.toDesc pts mul) := fun c hc => by
 obtain ⟨-,-,hlen,hp,hm,ht,h0,hk0,hkn⟩ := gchkD_zero hz;have key := pev_roots ((List.range pts.length).map fun i => eli F.toDesc (pts[i]?.getD 0)) ((List.range K.toNat).map c) (by simp; omega) ?_ ?_
 ·intro i hi;exact key (c i) (List.mem_map.2 ⟨i,List.mem_range.2 hi,rfl⟩)
 ·refine List.pairwise_map.2 (List.Pairwise.imp_of_mem ?_ (List.nodup_range (n := pts.length)));intro x y hx hy hne e;have hx' : x < pts.length := List.mem_range.1 hx;have hy' : y < pts.length := List.mem_range.1 hy;exact hne (nodup_get ht hx' hy' (eli_inj (elB_iff.1 hp x hx') (elB_iff.1 hp y hy') e))
 ·intro x hx;obtain ⟨j,hj,rfl⟩ := List.mem_map.1 hx;have hj' : j < pts.length := List.mem_range.1 hj;have h1 := elB_iff.1 hm j (by omega);have h2 : mul[j]?.getD 0 ≠ 0 := fun e => h0 (e ▸ mem_get (by omega))
  have h3 := hc j hj';rw [pev_map];have h4 : rsum K.toNat (fun i => c i * gM F.toDesc pts mul i j) = eli F.toDesc (mul[j]?.getD 0) * rsum K.toNat (fun i => c i * pw (eli F.toDesc (pts[j]?.getD 0)) i) := by
   rw [← rsum_mul_left];exact rsum_congr fun i _ => by unfold gM; exact mul_lc _ _ _
  rw [h4] at h3;exact (mul_eq_zero h3).resolve_left (eli_ne h1 h2)
theorem gM_rank {F : FD} {K : Int} {pts mul : List Int} (hz : gchkD F.toDesc K pts mul = 0) : rkS F K.toNat pts.length (gM F.toDesc pts mul) = K.toNat := elS_rank (gM_indep hz)
end
section
open Go.RowKit Cw
attribute [local go_sem] Oper.semAt_some

section
variable {W W' : World} {bd : Nat} {u0 u1 u2 u3 v1 v2 u : Value} {l1 l2 l' : List Int}
end
theorem take_succ_mem {l : List Int} {k : Nat} (hk : k < l.length) (x : Int) : x ∈ l.take (k + 1) ↔ x ∈ l.take k ∨ x = l[k]?.getD 0 := by
 rw [List.take_succ_eq_append_getElem hk,List.mem_append,List.mem_singleton,List.getElem?_eq_getElem hk,Option.getD_some]
theorem take_succ_nodup {l : List Int} {k : Nat} (hk : k < l.length) (h : (l.take k).Nodup) (hn : ¬ l[k]?.getD 0 ∈ l.take k) : (l.take (k + 1)).Nodup := by
 rw [List.take_succ_eq_append_getElem hk,List.nodup_append];rw [List.getElem?_eq_getElem hk,Option.getD_some] at hn;refine ⟨h,by simp,fun x hx y hy e => hn ?_⟩;have : y = l[k] := by simpa using hy
 rw [← this,← e]; exact hx
theorem not_nodup_take {l : List Int} {k : Nat} (hk : k < l.length) (hn : l[k]?.getD 0 ∈ l.take k) : ¬ l.Nodup := fun h => by
 have h2 : (l.take (k + 1)).Nodup := List.Pairwise.sublist (List.take_sublist _ _) h;rw [List.take_succ_eq_append_getElem hk,List.nodup_append] at h2;rw [List.getElem?_eq_getElem hk,Option.getD_some] at hn;exact h2.2.2 _ hn _ (List.mem_singleton.2 rfl) rfl
theorem seen_step {l : List Int} {k x : Nat} (hk : k < l.length) (hx : l[k]?.getD 0 = (x : Int)) : (fun i : Nat => if i = x then true else decide ((i : Int) ∈ l.take k)) = fun i : Nat => decide ((i : Int) ∈ l.take (k + 1)) := funext fun i => by
 by_cases e : i = x
 ·rw [if_pos e]; exact (decide_eq_true ((take_succ_mem hk _).2 (.inr (by rw [hx,e])))).symm
 ·rw [if_neg e];by_cases h : (i : Int) ∈ l.take k
  ·rw [decide_eq_true h,decide_eq_true ((take_succ_mem hk _).2 (.inl h))]
  ·rw [decide_eq_false h,decide_eq_false fun h2 => ?_];rcases (take_succ_mem hk _).1 h2 with h3 | h3
   ·exact h h3
   ·rw [hx] at h3; exact e (by omega)

end
section
open Go.RowKit Cw
attribute [local go_sem] Oper.semAt_some

theorem fitB_mod (S D : Desc) : fitB S D = (decide ((S.p : Int) = (D.p : Int)) && decide ((D.m : Int) % (S.m : Int) = 0)) := by
 have h1 := S.m1;have h2 := D.m1;unfold fitB divB
 congr 1
 ·exact decide_eq_decide.2 (by omega)
 ·refine decide_eq_decide.2 ⟨fun h => h.2.2,fun h => ⟨by omega,?_,h⟩⟩;have h3 : S.m ∣ D.m := by
   refine Nat.dvd_of_mod_eq_zero ?_;omega
  have := Nat.le_of_dvd (by omega) h3;omega
set_option maxHeartbeats 1000000 in
theorem Fits_any (S D : Desc) (A B : Option Addr) (n c n2 b : Nat) (w : World) :
  Calls Tryz.prog 92 #[.agg #[.int .i64 S.p,.int .i64 S.m,.slice A n c],.agg #[.int .i64 D.p,.int .i64 D.m,.slice B n2 b]] w fun e w' => e = .returned (.bool (fitB S D)) ∧ Below w.heap.size w w' := by
 have hE := Lib.hid (fitB_mod S D);have h1 := S.m1; have h2 := D.m1; have h3 := S.m8; have h4 := D.m8; have h5 := S.p256; have h6 := D.p256;have hB : Below w.heap.size w ((w.alloc (.cells #[.int .i64 S.p,.int .i64 S.m,.slice A n c] 24)).alloc (.cells #[.int .i64 D.p,.int .i64 D.m,.slice B n2 b] 24)) := ((Below.refl _ _).alloc (Nat.le_refl _) _).alloc (by simp) _;have k0 : ¬ (S.m : Int) = 0 := by omega
 have k1 : (D.m : Int).tmod (S.m : Int) = (D.m : Int) % (S.m : Int) := Int.tmod_eq_emod_of_nonneg (by omega);by_cases hp : (S.p : Int) = (D.p : Int)
 ·have hpb : ((S.p : Int) == (D.p : Int)) = true := beq_iff_eq.2 hp;by_cases hm : (D.m : Int) % (S.m : Int) = 0
  ·have hmb : ((D.m : Int) % (S.m : Int) == 0) = true := beq_iff_eq.2 hm;have hv : Hid (fitB S D = true) := by unfold Hid; rw [hE.out,decide_eq_true hp,decide_eq_true hm]; rfl
   clear hp hm;go_enter Tryz.func92,Tryz.ntmps92;go_wp2_with (fail);go_ret;exact ⟨ret_bool hv.out.symm,hB⟩
  ·have hmb : ((D.m : Int) % (S.m : Int) == 0) = false := beq_eq_false_iff_ne.2 hm;have hv : Hid (fitB S D = false) := by unfold Hid; rw [hE.out,decide_eq_true hp,decide_eq_false hm]; rfl
   clear hp hm;go_enter Tryz.func92,Tryz.ntmps92;go_wp2_with (fail);go_ret;exact ⟨ret_bool hv.out.symm,hB⟩
 ·have hpb : ((S.p : Int) == (D.p : Int)) = false := beq_eq_false_iff_ne.2 hp;have hv : Hid (fitB S D = false) := by unfold Hid; rw [hE.out,decide_eq_false hp]; rfl
  clear hp;go_enter Tryz.func92,Tryz.ntmps92;go_wp2_with (fail);go_ret;exact ⟨ret_bool hv.out.symm,hB⟩
end
section
open Go.RowKit Cw
attribute [local go_sem] Oper.semAt_some

def Two (w : World) (b : Nat) (v0 v1 : Value) : Prop := w.cell? ⟨b,0,none⟩ = some v0 ∧ w.cell? ⟨b,1,none⟩ = some v1 ∧ w.frozen? ⟨b,0,none⟩ = false ∧ w.frozen? ⟨b,1,none⟩ = false
theorem Two.keep {B b : Nat} {w w1 : World} {v0 v1 : Value} (h : Two w b v0 v1) (hb : Below B w w1) (hlt : b < B) : Two w1 b v0 v1 :=
 ⟨(hb.cell (p := ⟨b,0,none⟩) hlt).trans h.1,(hb.cell (p := ⟨b,1,none⟩) hlt).trans h.2.1,(hb.frozen (p := ⟨b,0,none⟩) hlt).trans h.2.2.1,(hb.frozen (p := ⟨b,1,none⟩) hlt).trans h.2.2.2⟩
theorem Two.new (w : World) (v0 v1 : Value) (t : TypeId) : Two (w.alloc (.cells #[v0,v1] t)) w.heap.size v0 v1 := by unfold Two; simp [go_sem]

def GenrPost (D : Desc) (K : Int) (pts mul : List Int) (w : World) (e : Ending) (w' : World) : Prop :=
 Below w.heap.size w w' ∧ ((gchkD D K pts mul ≠ 0 ∧ e = .returned (.tuple #[.agg #[.int .i64 0,.slice none 0 0],.int .i64 (gchkD D K pts mul)])) ∨
  (gchkD D K pts mul = 0 ∧ ∃ Al cl,e = .returned (.tuple #[.agg #[.int .i64 pts.length,.slice Al K.toNat cl],.int .i64 0]) ∧ RdM w' w'.heap.size Al K.toNat (rowsL D pts.length (gM D pts mul))))
set_option maxRecDepth 100000 in
set_option maxHeartbeats 2000000 in
theorem gGenr_D (D : Desc) (K : Int) (pts mul : List Int) (A A1 A2 : Option Addr) (c c1 c2 : Nat) (w : World) (hr : Rd w w.heap.size A (modL D)) (hg : Good D.p D.m (modL D)) (hr1 : Rd w w.heap.size A1 pts) (hr2 : Rd w w.heap.size A2 mul) (h1 : pts.length ≤ c1) (h1' : c1 ≤ maxLen) (h2 : mul.length ≤ maxLen) :
  Calls Tryz.prog 114 #[.agg #[.int .i64 D.p,.int .i64 D.m,.slice A D.mod.length c,.int .i64 K,.slice A1 pts.length c1,.slice A2 mul.length c2]] w (GenrPost D K pts mul w) := by
 have hN := fun W a b c' => Lib.hid (gOpen_D D K pts mul A A1 A2 c c1 c2 W a hg b c' h1 h1' h2)
 obtain ⟨Z,hZ⟩ : ∃ Z,Z = (w.alloc (.cells #[.int .i64 D.p,.int .i64 D.m,.slice A D.mod.length c,.int .i64 K,.slice A1 pts.length c1,.slice A2 mul.length c2] 72)).alloc (.cells #[.int .i64 0,.slice none 0 0] 48) := ⟨_,rfl⟩;have hB : Below w.heap.size w Z := by rw [hZ]; exact ((Below.refl _ _).alloc (Nat.le_refl _) _).alloc (by simp) _
 have hZs : Z.heap.size = w.heap.size + 2 := by rw [hZ]; simp
 have k0 := Lib.hid (show Z.cell? ⟨w.heap.size,0,none⟩ = some (.int .i64 D.p) ∧ Z.cell? ⟨w.heap.size,1,none⟩ = some (.int .i64 D.m) ∧ Z.cell? ⟨w.heap.size,2,none⟩ = some (.slice A D.mod.length c) ∧ Z.cell? ⟨w.heap.size,3,none⟩ = some (.int .i64 K) ∧ Z.cell? ⟨w.heap.size,4,none⟩ = some (.slice A1 pts.length c1) ∧ Z.cell? ⟨w.heap.size,5,none⟩ = some (.slice A2 mul.length c2) from by rw [hZ]; simp [go_sem]);have k1 : Two Z (w.heap.size + 1) (.int .i64 0) (.slice none 0 0) := by
  rw [hZ]; have := Two.new (w.alloc (.cells #[.int .i64 D.p,.int .i64 D.m,.slice A D.mod.length c,.int .i64 K,.slice A1 pts.length c1,.slice A2 mul.length c2] 72)) (.int .i64 0) (.slice none 0 0) 48; rw [World.size_alloc] at this; exact this
 have hN2 := hN Z ((hr.below hB).more hB.size) ((hr1.below hB).more hB.size) ((hr2.below hB).more hB.size);replace hZ := Lib.hid hZ;clear hg hN;go_enter Tryz.func114,Tryz.ntmps114;go_wp2_with (fail);rw [← hZ.out];(with_reducible refine hN2.out.mono ?_);rintro e w1 ⟨hb1,g,F,rfl,hgf,hgl,⟨hz,rfl⟩ | ⟨hz,rfl⟩⟩;rotate_left
 ·have hzb : (gchkD F.toDesc K pts mul != 0) = true := by rw [bne_iff_ne]; exact hz
  obtain ⟨a0,a1,f0,f1⟩ := k1.keep hb1 (by omega);clear k1;have hBe := Lib.hid ((hB.trans (hb1.mono hB.size)).trans ((set2 (w3 := w1) (b := w.heap.size + 1) (.int .i64 0) (.slice none 0 0)).mono (Nat.le_succ _)));replace hz := Lib.hid hz;go_wp2_with (fail);refine bodyPost_ret (v := .tuple #[.agg #[.int .i64 0,.slice none 0 0],.int .i64 (gchkD F.toDesc K pts mul)]) (by simp [results,Tryz.results114,go_sem,a0,a1]) rfl ⟨hBe.out,.inl ⟨hz.out,rfl⟩⟩
 obtain ⟨hp1,hp64,hlen,-,hel,-,-,hK0,hKn⟩ := gchkD_zero hz;obtain ⟨kn,rfl⟩ := Int.eq_ofNat_of_zero_le hK0;have hs1 := hb1.size;have hB1 := hB.trans (hb1.mono hB.size);have r1 := k1.keep hb1 (by omega);have kk1 := keep6 hb1 (by omega) k0.out;rw [hlen] at kk1;simp only [hlen];have hG := Lib.hid (gGen_any F kn pts.length pts mul A A1 A2 c c1 c2 g w1 hgf ((hr1.below hB1).more hB1.size) ((hr2.below hB1).more hB1.size) rfl hlen hp1 hp64 (by omega) (of_decide_eq_true hel));obtain ⟨q0,q1,q2,q3,q4,q5⟩ := kk1;replace hz := Lib.hid hz;replace hlen := Lib.hid hlen;replace hel := Lib.hid hel;clear hN2 k0 hr hr1 hr2;go_wp2_with (fail);(with_reducible refine hG.out.mono ?_);rintro e w2 ⟨Al,cl,rfl,hru,hb2⟩;have hs2 := hb2.size;obtain ⟨a0,a1,f0,f1⟩ := r1.keep hb2 (by omega);have hBf := Lib.hid ((hB1.trans (hb2.mono hB1.size)).trans ((set2 (w3 := w2) (b := w.heap.size + 1) (.int .i64 pts.length) (.slice Al kn cl)).mono (Nat.le_succ _)));have hrf : Hid (RdMU ((w2.setCell ⟨w.heap.size + 1,0,none⟩ (.int .i64 pts.length)).setCell ⟨w.heap.size + 1,1,none⟩ (.slice Al kn cl)) w1.heap.size w2.heap.size Al kn (rowsL F.toDesc pts.length (gM F.toDesc pts mul))) := hru.keepU fun p hp _ => set2_above (b := w.heap.size + 1) (L := w1.heap.size) (by omega) _ _ p hp
 have hsz : Hid (w2.heap.size ≤ ((w2.setCell ⟨w.heap.size + 1,0,none⟩ (.int .i64 pts.length)).setCell ⟨w.heap.size + 1,1,none⟩ (.slice Al kn cl)).heap.size) := by unfold Hid; simp [World.setCell]
 clear hru hG r1;go_wp2_with (fail);refine bodyPost_ret (v := .tuple #[.agg #[.int .i64 pts.length,.slice Al kn cl],.int .i64 0]) (by simp [results,Tryz.results114,go_sem,a0,a1]) rfl ⟨hBf.out,.inr ⟨hz.out,Al,cl,rfl,hrf.out.rdm.more hsz.out⟩⟩

end
section
open Go.RowKit Cw
attribute [local go_sem] Oper.semAt_some

noncomputable def synL (F : FD) (K : Int) (pts mul wl : List Int) : List Int := lst ((pts.length : Int) - K).toNat fun i => ci (rsum pts.length fun j => eli F.toDesc ((rowsL F.toDesc pts.length (gM F.toDesc pts (dualL F pts mul)) i)[j]?.getD 0) * eli F.toDesc (wl[j]?.getD 0))
end
end Go.Proofs.YtjdoneanohhkmaaGreat
