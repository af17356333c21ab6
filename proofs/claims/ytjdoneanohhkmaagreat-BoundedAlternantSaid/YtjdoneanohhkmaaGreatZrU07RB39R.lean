/- Plain law of layer 39: what is decoded is unique; shifts; erased positions. No Go here. Layer 39: the law's own same and few, the reference's Received, Differ, Plus. The reference of layer 39: Received, Differ, Plus. Plain law of layer 39: what a decoder of the code of the images says of an alternant code. No Go here. -/
import Derived.BigQuiet
import Derived.Test.YtjdoneanohhkmaaGreatZrU07RBndP
import Derived.Test.YtjdoneanohhkmaaGreatZrU07RBndR
import Derived.Test.YtjdoneanohhkmaaGreatZrU07RBndG
import Derived.Test.YtjdoneanohhkmaaGreatZrU07RAltS
namespace Go.Proofs.YtjdoneanohhkmaaGreat
section
open Go.RowKit Cw
open Cw.CField (inv)

theorem filter_and (a b : Nat → Bool) (n : Nat) : ((List.range n).filter fun i => !(a i && b i)).length ≤ ((List.range n).filter fun i => !a i).length + ((List.range n).filter fun i => !b i).length := by
 induction n with
 | zero => exact Nat.le_refl _
 | succ n ih =>
  rw [List.range_succ,List.filter_append,List.filter_append,List.filter_append,List.length_append,List.length_append,List.length_append];have e : ([n].filter fun i => !(a i && b i)).length ≤ ([n].filter fun i => !a i).length + ([n].filter fun i => !b i).length := by cases h1 : a n <;> cases h2 : b n <;> simp [h1,h2]
  omega
section
variable {F : FD} {kn : Nat} {pts mul w er : List Int}
theorem wr_uniq {n : Nat} {X Y : Nat → R F.toDesc} (hX : ∀ i j,i < n → j < n → X i = X j → i = j) {m m' : List Int} (h1 : m.length ≤ kn) (h2 : m'.length ≤ kn) (h3 : 2 * wr F.toDesc n X Y m + kn ≤ n) (h4 : 2 * wr F.toDesc n X Y m' + kn ≤ n) (x : R F.toDesc) : pevI F.toDesc m x = pevI F.toDesc m' x := by
 have hd := ((cfR_lt F.toDesc m).mono h1).sub ((cfR_lt F.toDesc m').mono h2) (Nat.le_refl kn) (Nat.le_refl kn);have hc := filter_and (fun i => ci (pevI F.toDesc m (X i)) == ci (Y i)) (fun i => ci (pevI F.toDesc m' (X i)) == ci (Y i)) n;have hb := filter_both (fun i => (ci (pevI F.toDesc m (X i)) == ci (Y i)) && (ci (pevI F.toDesc m' (X i)) == ci (Y i))) n;have h5 : ((List.range n).filter fun i => !(ci (pevI F.toDesc m (X i)) == ci (Y i))).length = wr F.toDesc n X Y m := rfl;have h6 : ((List.range n).filter fun i => !(ci (pevI F.toDesc m' (X i)) == ci (Y i))).length = wr F.toDesc n X Y m' := rfl;rw [pevI_vl F.toDesc m x h1,pevI_vl F.toDesc m' x h2];refine sub_eq_zero ?_;rw [← vl_sub];refine rsum_eq_zero fun s _ => ?_
 show (cfR F.toDesc m s - cfR F.toDesc m' s) * pw x s = 0
 rw [zero_of_roots hX hd (fun i => (ci (pevI F.toDesc m (X i)) == ci (Y i)) && (ci (pevI F.toDesc m' (X i)) == ci (Y i))) (by omega) (fun i hi hp => ?_) s,zero_mul];rw [vl_sub,← pevI_vl F.toDesc m _ h1,← pevI_vl F.toDesc m' _ h2];rw [Bool.and_eq_true,beq_iff_eq,beq_iff_eq] at hp;rw [ci_inj (hp.1.trans hp.2.symm),sub_self]
theorem dec_uniq (hz : gchkD F.toDesc kn pts mul = 0) (hw : w.length = pts.length) (hel : elB F.toDesc w = true) (hr : ∀ x ∈ er,0 ≤ x ∧ x < (pts.length : Int)) (hd : er.Nodup) {m m' : List Int} (h1 : m.length ≤ kn) (h2 : m'.length ≤ kn)
  (h3 : 2 * (errL (wordL F.toDesc pts mul m) w er pts.length).length + er.length + kn ≤ pts.length) (h4 : 2 * (errL (wordL F.toDesc pts mul m') w er pts.length).length + er.length + kn ≤ pts.length) : wordL F.toDesc pts mul m = wordL F.toDesc pts mul m' := by
 have hc := idxL_count hr hd;rw [← wr_err hz hw hel m] at h3;rw [← wr_err hz hw hel m'] at h4;obtain ⟨N,hN⟩ : ∃ N,N = (idxL er pts.length).length := ⟨_,rfl⟩;rw [← hN] at h3 h4 hc;have h5 : 2 * wr F.toDesc N (xsP F pts er) (ysP F pts mul w er) m + kn ≤ N := by omega
 have h6 : 2 * wr F.toDesc N (xsP F pts er) (ysP F pts mul w er) m' + kn ≤ N := by omega
 exact wordL_congr F.toDesc pts mul (wr_uniq (hN ▸ xsP_inj hz) h1 h2 h5 h6)
theorem errL_congr {c w c' w' er : List Int} {n : Nat} (h : ∀ i,i < n → ¬ (i : Int) ∈ er → (c[i]?.getD 0 = w[i]?.getD 0 ↔ c'[i]?.getD 0 = w'[i]?.getD 0)) : ∀ k,k ≤ n → errL c w er k = errL c' w' er k
 | 0,_ => rfl
 | k + 1,hk => by
  have ih := errL_congr h k (by omega);by_cases h1 : (k : Int) ∈ er
  ·rw [errL_in h1,errL_in h1,ih]
  ·by_cases h2 : c[k]?.getD 0 = w[k]?.getD 0
   ·rw [errL_eq h2,errL_eq ((h k (by omega) h1).1 h2),ih]
   ·rw [errL_ne h1 h2,errL_ne h1 (fun e => h2 ((h k (by omega) h1).2 e)),ih]
theorem wordL_get (D : Desc) {pts mul m : List Int} {i : Nat} (h : i < pts.length) : (wordL D pts mul m)[i]?.getD 0 = ci (eli D (mul[i]?.getD 0) * pevI D m (eli D (pts[i]?.getD 0))) := lst_get _ h
end
section
variable {F : FD} {kn : Nat} {pts mul w er : List Int}
end
end
section
open Go.RowKit Cw
attribute [local go_sem] Oper.semAt_some

def LawEnd39 (w : World) (e : Ending) (w' : World) : Prop := e = .returned (.bool true) ∧ Below w.heap.size w w'

set_option maxHeartbeats 1000000 in
theorem same39_any (l1 l2 : List Int) (A1 A2 : Option Addr) (c1 c2 : Nat) (w : World) (h1 : Rd w w.heap.size A1 l1) (h2 : Rd w w.heap.size A2 l2) (hl1 : l1.length ≤ 1000000) (_hl2 : l2.length ≤ 1000000) :
  Calls Tryz.prog 117 #[.slice A1 l1.length c1,.slice A2 l2.length c2] w fun e w' => e = .returned (.bool (decide (l1 = l2))) ∧ Below w.heap.size w w' := by
 by_cases hne : l1.length = l2.length
 ·rw [← hne];go_enter Tryz.func117,Tryz.ntmps117;go_wp2_with (fail);go_loopw [13,5] (fun i _ wr => ∃ k : Nat,k ≤ l1.length ∧ i = .int .i64 k ∧ (∀ j,j < k → l1[j]?.getD 0 = l2[j]?.getD 0) ∧ Below w.heap.size w wr) (fun i _ _ => l1.length - (intOf i).toNat)
  case atStart => exact ⟨0,by omega,rfl,fun j hj => absurd hj (by omega),Below.refl _ _⟩
  case round =>
   obtain ⟨k,hk,rfl,hsm,hbw⟩ := hrel;by_cases hlt : k < l1.length
   ·obtain ⟨b1,o1,rfl,hb1,hc1⟩ := h1.at_ hlt;obtain ⟨b2,o2,rfl,hb2,hc2⟩ := h2.at_ (by omega : k < l2.length);have hd1 := (hbw.cell (p := ⟨b1,o1 + k,none⟩) hb1).trans hc1;have hd2 := (hbw.cell (p := ⟨b2,o2 + k,none⟩) hb2).trans hc2;obtain ⟨y1,hy1⟩ : ∃ y,y = l1[k]?.getD 0 := ⟨_,rfl⟩;obtain ⟨y2,hy2⟩ : ∃ y,y = l2[k]?.getD 0 := ⟨_,rfl⟩;rw [← hy1] at hd1; rw [← hy2] at hd2;clear hc1 hc2;by_cases hyy : y1 = y2
    ·have hz : (y1 != y2) = false := by simp [hyy]
     have hsm' : ∀ j,j < k + 1 → l1[j]?.getD 0 = l2[j]?.getD 0 := fun j hj => by
      by_cases hjk : j = k
      ·rw [hjk,← hy1,← hy2,hyy]
      ·exact hsm j (by omega)
     clear hyy hy1 hy2 hsm;go_wp2_with (fail);go_quiet (fail);go_wp2_with (fail);go_roundw
     case rel => exact ⟨k + 1,by omega,by go_num,hsm',⟨hbw.os,hbw.tape,hbw.output,hbw.size,hbw.block⟩⟩
     case measure => simp [intOf]; omega
    ·have hz : (y1 != y2) = true := by simp [hyy]
     have hne2 : decide (l1 = l2) = false := by
      simp only [decide_eq_false_iff_not]; intro he; apply hyy; rw [hy1,hy2,he]
     replace hne2 := Lib.hid hne2;clear hyy hy1 hy2 hsm;go_wp2_with (fail);go_quiet (fail);go_wp2_with (fail);go_ret;exact ⟨by rw [hne2.out]; rfl,⟨hbw.os,hbw.tape,hbw.output,hbw.size,hbw.block⟩⟩
   ·obtain rfl : k = l1.length := by omega
    have he : l1 = l2 := List.ext_getElem? fun j => by
     by_cases hj : j < l1.length
     ·have := hsm j hj;rw [List.getElem?_eq_getElem hj,List.getElem?_eq_getElem (by omega : j < l2.length)] at this ⊢
      simpa using this
     ·rw [List.getElem?_eq_none (by omega),List.getElem?_eq_none (by omega)]
    have he2 : decide (l1 = l2) = true := by simp [he]
    replace he2 := Lib.hid he2;clear he hsm;go_wp2_with (fail);go_ret;exact ⟨by rw [he2.out]; rfl,hbw⟩
 ·have hne2 : decide (l1 = l2) = false := by
   simp only [decide_eq_false_iff_not]; intro he; exact hne (by rw [he])
  rw [hne2];have hz : ((l1.length : Int) != (l2.length : Int)) = true := by simp; omega
  clear hne2;go_enter Tryz.func117,Tryz.ntmps117;go_wp2_with (fail);go_ret;exact ⟨rfl,Below.refl _ _⟩
def fewB (n m : Nat) : Bool := decide (n ≤ 20) && decide (m ≤ 30)
theorem few39_any (n m : Nat) (A1 A2 : Option Addr) (c1 c2 : Nat) (w : World) : Calls Tryz.prog 52 #[.slice A1 n c1,.slice A2 m c2] w fun e w' => e = .returned (.bool (fewB n m)) ∧ w = w' := by
 by_cases h1 : n ≤ 20
 ·have hd1 : decide ((n : Int) ≤ 20) = true := decide_eq_true (by omega);have hd1' : (n : Int) ≤ 20 := by omega
  by_cases h2 : m ≤ 30
  ·have hd2 : decide ((m : Int) ≤ 30) = true := decide_eq_true (by omega);have hd2' : (m : Int) ≤ 30 := by omega
   have hf : Hid (fewB n m = true) := by unfold Hid fewB; simp [h1,h2]
   go_enter Tryz.func52,Tryz.ntmps52;go_wp2_with (fail);go_ret;exact ⟨by rw [hf.out]; simp [h1,h2],rfl⟩
  ·have hd2 : decide ((m : Int) ≤ 30) = false := decide_eq_false (by omega);have hf : Hid (fewB n m = false) := by unfold Hid fewB; simp [h2]
   go_enter Tryz.func52,Tryz.ntmps52;go_wp2_with (fail);go_ret;exact ⟨by rw [hf.out]; simp [h2],rfl⟩
 ·have hd1 : decide ((n : Int) ≤ 20) = false := decide_eq_false (by omega);have hf : Hid (fewB n m = false) := by unfold Hid fewB; simp [h1]
  go_enter Tryz.func52,Tryz.ntmps52;go_wp2_with (fail);go_ret;exact ⟨by rw [hf.out]; simp [h1],rfl⟩
end
section
open Go.RowKit Cw
attribute [local go_sem] Oper.semAt_some

set_option maxRecDepth 100000 in
set_option maxHeartbeats 4000000 in
theorem Received39_any (D : Desc) (word er : List Int) (n : Nat) (A Aw Ae : Option Addr) (c cw ce : Nat) (w : World) (hrw : Rd w w.heap.size Aw word) (hre : Rd w w.heap.size Ae er) (hwl : word.length ≤ maxLen) (hel : er.length ≤ 1000000) :
  Calls Tryz.prog 54 #[.agg #[.int .i64 D.p,.int .i64 D.m,.slice A D.mod.length c],.int .i64 (n : Int),.slice Aw word.length cw,.slice Ae er.length ce] w fun e w' => e = .returned (.int .i64 (recErr D word n er)) ∧ Below w.heap.size w w' := by
 have hE := fun W a => Lib.hid (Elems18_any D word n 4 A Aw c cw W a hwl)
 obtain ⟨Z,hZ⟩ : ∃ Z,Z = w.alloc (.cells #[.int .i64 D.p,.int .i64 D.m,.slice A D.mod.length c] 24) := ⟨_,rfl⟩;have hB : Below w.heap.size w Z := by rw [hZ]; exact (Below.refl _ _).alloc (Nat.le_refl _) _
 have hbx := Lib.hid (show Bx Z w.heap.size D A D.mod.length c from by rw [hZ]; exact Bx.new w D A D.mod.length c _);have hE1 := hE Z ((hrw.below hB).more hB.size);replace hZ := Lib.hid hZ;clear hE hrw;go_enter Tryz.func54,Tryz.ntmps54;obtain ⟨q0,q1,q2⟩ := hbx.out.cells;go_wp2_with (fail);rw [← hZ.out];go_wp2_with (fail);(with_reducible refine hE1.out.mono ?_);rintro e w1 ⟨rfl,hb1⟩;clear q0 q1 q2;have hB1 := hB.trans (hb1.mono hB.size);have hre1 := (hre.below hB1).more hB1.size;by_cases hz : elErr D word n 4 = 0;rotate_left
 ·have hzb : (elErr D word n 4 != 0) = true := by rw [bne_iff_ne]; exact hz
  have hR : Hid (recErr D word n er = elErr D word n 4) := if_pos hz;clear hz;go_wp2_with (fail);go_ret;exact ⟨by rw [hR.out]; rfl,hB1⟩
 rw [hz];have hwn : word.length = n ∧ elB D word = true := by
  unfold elErr at hz;by_cases h1 : (word.length : Int) ≠ n
  ·rw [if_pos h1] at hz; cases hz
  ·rw [if_neg h1] at hz;by_cases h2 : elB D word = false
   ·rw [if_pos h2] at hz; cases hz
   ·exact ⟨by omega,by cases h : elB D word with | true => rfl | false => exact absurd h h2⟩
 replace hwn := Lib.hid hwn;clear hz hE1;go_wp2_with (fail);go_loop [10] (fun i => ∃ k : Nat,k ≤ er.length ∧ i = .int .i64 k ∧ ∀ x ∈ er.take k,0 ≤ x ∧ x < (n : Int)) (fun i => er.length - (intOf i).toNat)
 case atStart => exact ⟨0,by omega,rfl,fun x hx => by simp at hx⟩
 case round =>
  obtain ⟨k,hk,rfl,hrg⟩ := hrel;by_cases hkm : k < er.length
  ·obtain ⟨ba,oa,rfl,hba,hca⟩ := hre1.at_ hkm;obtain ⟨x,hx⟩ : ∃ x,x = er[k]?.getD 0 := ⟨_,rfl⟩;rw [← hx] at hca;have hxm : x ∈ er := by rw [hx]; exact mem_get hkm
   have hk0 : (0 : Int) ≤ (k : Int) := by omega
   have hk1 : (k : Int) < (er.length : Int) := by omega
   replace hx := Lib.hid hx;by_cases hx0 : x < 0
   ·have hE : Hid (recErr D word n er = 6) := recErr_six hwn.out.1 hwn.out.2 hxm (by omega);go_wp2_with (fail);go_ret;exact ⟨by rw [hE.out]; rfl,hB1⟩
   by_cases hx1 : (n : Int) ≤ x
   ·have hE : Hid (recErr D word n er = 6) := recErr_six hwn.out.1 hwn.out.2 hxm (by omega);go_wp2_with (fail);go_ret;exact ⟨by rw [hE.out]; rfl,hB1⟩
   have hrg2 : Hid (∀ x ∈ er.take (k + 1),0 ≤ x ∧ x < (n : Int)) := fun z hz => by
    rcases (take_succ_mem hkm z).1 hz with h3 | h3
    ·exact hrg z h3
    ·rw [h3,← hx.out]; omega
   clear hrg;go_wp2_with (fail);go_round
   case rel => exact ⟨k + 1,by omega,by go_num,hrg2.out⟩
   case measure => simp [intOf]; omega
  ·obtain rfl : k = er.length := by omega
   rw [List.take_length] at hrg;replace hrg := Lib.hid hrg;go_wp2_with (fail);go_loopw [11] (fun i wr => ∃ k : Nat,k ≤ er.length ∧ i = .int .i64 k ∧ (er.take k).Nodup ∧ Below w1.heap.size w1 wr) (fun i _ => er.length - (intOf i).toNat)
   case atStart => exact ⟨0,by omega,rfl,by simp,Below.refl _ _⟩
   case round =>
    obtain ⟨k,hk,rfl,hnd,hbw⟩ := hrel;obtain ⟨w3,rfl⟩ : ∃ w3 : World,w3 = wr := ⟨_,rfl⟩;by_cases hkm : k < er.length
    ·obtain ⟨ba,oa,rfl,hba,hca⟩ := hre1.at_ hkm;have hk0 : (0 : Int) ≤ (k : Int) := by omega
     have hk1 : (k : Int) < (er.length : Int) := by omega
     obtain ⟨x,hx⟩ : ∃ x,x = er[k]?.getD 0 := ⟨_,rfl⟩;rw [← hx] at hca;replace hx := Lib.hid hx;replace hnd := Lib.hid hnd;go_wp2_with (fail);go_loopw [12] (fun i wr => ∃ j : Nat,j ≤ k ∧ i = .int .i64 j ∧ ¬ x ∈ er.take j ∧ Below w1.heap.size w1 wr) (fun i _ => k - (intOf i).toNat)
     case atStart => exact ⟨0,by omega,rfl,by simp,hbw⟩
     case round =>
      clear hbw;obtain ⟨j,hj,rfl,hnx,hbw⟩ := hrel;obtain ⟨w4,rfl⟩ : ∃ w4 : World,w4 = wr := ⟨_,rfl⟩;by_cases hjk : j < k
      ·have hj0 : (0 : Int) ≤ (j : Int) := by omega
       have hj1 : (j : Int) < (k : Int) := by omega
       have hj2 : (j : Int) < (er.length : Int) := by omega
       have hc1 := (hbw.cell (p := ⟨ba,oa + k,none⟩) hba).trans hca;obtain ⟨b',o',e',-,hcj⟩ := hre1.at_ (show j < er.length by omega)
       cases e'
       have hc2 := (hbw.cell (p := ⟨ba,oa + j,none⟩) hba).trans hcj;obtain ⟨y,hy⟩ : ∃ y,y = er[j]?.getD 0 := ⟨_,rfl⟩;rw [← hy] at hc2;have hin : x ∈ er.take (j + 1) ↔ x ∈ er.take j ∨ x = y := by rw [hy]; exact take_succ_mem (by omega) x
       replace hy := Lib.hid hy;clear hcj;by_cases hxy : x = y
       ·have hxb : (x == y) = true := by rw [beq_iff_eq]; exact hxy
        have hdup : ¬ er.Nodup := not_nodup_take hkm (by
         rw [← hx.out];have h1 : x ∈ er.take (j + 1) := hin.2 (.inr hxy);have h2 : er.take (j + 1) = (er.take k).take (j + 1) := by rw [List.take_take,Nat.min_eq_left (by omega)]
         rw [h2] at h1;exact List.mem_of_mem_take h1)
        have hE : Hid (recErr D word n er = 18) := recErr_dup hwn.out.1 hwn.out.2 hrg.out hdup;clear hxy hdup hin hnx;go_wp2_with (fail);go_quiet (fail);go_wp2_with (fail);go_ret;exact ⟨by rw [hE.out]; rfl,hB1.trans (Below.mono ⟨hbw.os,hbw.tape,hbw.output,hbw.size,hbw.block⟩ hB1.size)⟩
       ·have hxb : (x == y) = false := by rw [beq_eq_false_iff_ne]; exact hxy
        have hn2 : Hid (¬ x ∈ er.take (j + 1)) := fun h => (hin.1 h).elim hnx hxy
        clear hxy hin hnx;go_wp2_with (fail);go_quiet (fail);go_wp2_with (fail);go_roundw
        case rel => exact ⟨j + 1,by omega,by go_num,hn2.out,⟨hbw.os,hbw.tape,hbw.output,hbw.size,hbw.block⟩⟩
        case measure => simp [intOf]; omega
      ·obtain rfl : j = k := by omega
       have hnd2 : Hid ((er.take (j + 1)).Nodup) := take_succ_nodup hkm hnd.out (by rw [← hx.out]; exact hnx);clear hnx;go_wp2_with (fail);go_roundw
       case rel => exact ⟨j + 1,by omega,by go_num,hnd2.out,hbw⟩
       case measure => simp [intOf]; omega
    ·obtain rfl : k = er.length := by omega
     rw [List.take_length] at hnd;have hE : Hid (recErr D word n er = 0) := recErr_ok hwn.out.1 hwn.out.2 hrg.out hnd;clear hnd;go_wp2_with (fail);go_ret;exact ⟨by rw [hE.out]; rfl,hB1.trans (hbw.mono hB1.size)⟩

theorem mem_take_succ {er : List Int} {j : Nat} (hj : j < er.length) (z : Int) : z ∈ er.take (j + 1) ↔ z ∈ er.take j ∨ er[j]?.getD 0 = z := by
 rw [take_succ_mem hj];exact or_congr Iff.rfl ⟨Eq.symm,Eq.symm⟩

set_option maxRecDepth 100000 in
set_option maxHeartbeats 4000000 in
theorem Differ39_any (n : Nat) (c wl er : List Int) (hn : n ≤ 64) (hc : c.length = n) (hw : wl.length = n) (hel : er.length ≤ 1000000) (Ac Aw Ae : Option Addr) (cc cw ce : Nat) (w : World) (hrc : Rd w w.heap.size Ac c) (hrw : Rd w w.heap.size Aw wl) (hre : Rd w w.heap.size Ae er) :
  Calls Tryz.prog 124 #[.slice Ac n cc,.slice Aw n cw,.slice Ae er.length ce] w fun e w' => ∃ A c',e = .returned (.slice A (errL c wl er n).length c') ∧ Rd w' w'.heap.size A (errL c wl er n) ∧ Below w.heap.size w w' := by
 replace hc := Lib.hid hc;replace hw := Lib.hid hw;have ho0 := Own.nil w w.heap.size;go_enter Tryz.func124,Tryz.ntmps124;go_wp2_with (fail);go_loopw [8,7] (fun i o wr => ∃ (k : Nat) (A3 : Option Addr) (c3 : Nat),k ≤ n ∧ i = .int .i64 k ∧ o = .slice A3 (errL c wl er k).length c3 ∧ Hid (Own wr w.heap.size (.slice A3 (errL c wl er k).length c3) (errL c wl er k)) ∧ Below w.heap.size w wr) (fun i _ _ => n - (intOf i).toNat)
 case atStart => exact ⟨0,none,0,by omega,rfl,rfl,ho0,Below.refl _ _⟩
 case round =>
  clear ho0;obtain ⟨w3,rfl⟩ : ∃ w3 : World,w3 = wr := ⟨_,rfl⟩;obtain ⟨k,A3,c3,hk,rfl,rfl,ho,hbw⟩ := hrel;by_cases hlt : k < n
  ·have hk0 : (0 : Int) ≤ (k : Int) := by omega
   have hk1 : (k : Int) < (n : Int) := by omega
   go_wp2_with (fail);go_loop [10,9] (fun vj vi => ∃ j : Nat,j ≤ er.length ∧ vj = .int .i64 j ∧ vi = .bool (decide ((k : Int) ∈ er.take j))) (fun vj _ => er.length - (intOf vj).toNat)
   case atStart => exact ⟨0,by omega,rfl,by simp⟩
   case round =>
    obtain ⟨j,hj,rfl,rfl⟩ := hrel;by_cases hjl : j < er.length
    ·have hj0 : (0 : Int) ≤ (j : Int) := by omega
     have hj1 : (j : Int) < (er.length : Int) := by omega
     obtain ⟨be,oe,rfl,hbe,hce⟩ := hre.at_ hjl;have hx := (hbw.cell (p := ⟨be,oe + j,none⟩) hbe).trans hce;have hms := mem_take_succ hjl (k : Int);obtain ⟨x,hxe⟩ : ∃ x,x = er[j]?.getD 0 := ⟨_,rfl⟩;rw [← hxe] at hx hms;replace hxe := Lib.hid hxe;clear hce;by_cases hin : (k : Int) ∈ er.take j
     ·rw [decide_eq_true hin];have hd : Hid (decide ((k : Int) ∈ er.take (j + 1)) = true) := decide_eq_true (hms.2 (.inl hin));clear hin hms;go_wp2_with (fail);go_round
      case rel => exact ⟨j + 1,by omega,by go_num,by rw [hd.out]⟩
      case measure => simp [intOf]; omega
     ·rw [decide_eq_false hin];by_cases hxk : x = (k : Int)
      ·have hxb : (x == (k : Int)) = true := by rw [beq_iff_eq]; exact hxk
       have hd : Hid (decide ((k : Int) ∈ er.take (j + 1)) = true) := decide_eq_true (hms.2 (.inr hxk));clear hin hms hxk;go_wp2_with (fail);go_round
       case rel => exact ⟨j + 1,by omega,by go_num,by rw [hd.out]⟩
       case measure => simp [intOf]; omega
      ·have hxb : (x == (k : Int)) = false := by rw [beq_eq_false_iff_ne]; exact hxk
       have hd : Hid (decide ((k : Int) ∈ er.take (j + 1)) = false) := decide_eq_false fun h => (hms.1 h).elim hin hxk
       clear hin hms hxk;go_wp2_with (fail);go_round
       case rel => exact ⟨j + 1,by omega,by go_num,by rw [hd.out]⟩
       case measure => simp [intOf]; omega
    ·obtain rfl : j = er.length := by omega
     rw [List.take_length];obtain ⟨b1,o1,rfl,hb1,hc1⟩ := hrc.at_ (by rw [hc.out]; exact hlt : k < c.length);obtain ⟨b2,o2,rfl,hb2,hc2⟩ := hrw.at_ (by rw [hw.out]; exact hlt : k < wl.length);have hd1 := (hbw.cell (p := ⟨b1,o1 + k,none⟩) hb1).trans hc1;have hd2 := (hbw.cell (p := ⟨b2,o2 + k,none⟩) hb2).trans hc2;obtain ⟨y1,hy1⟩ : ∃ y1,y1 = c[k]?.getD 0 := ⟨_,rfl⟩;obtain ⟨y2,hy2⟩ : ∃ y2,y2 = wl[k]?.getD 0 := ⟨_,rfl⟩;rw [← hy1] at hd1;rw [← hy2] at hd2;replace hy1 := Lib.hid hy1;replace hy2 := Lib.hid hy2;clear hc1 hc2;by_cases hin : (k : Int) ∈ er
     ·rw [decide_eq_true hin];have hst : Hid (errL c wl er k = errL c wl er (k + 1)) := (errL_in hin).symm;clear hin;rw [hst.out] at ho ⊢;go_wp2_with (fail);go_quiet (fail);go_wp2_with (fail);go_roundw
      case rel => exact ⟨k + 1,A3,c3,by omega,by go_num,rfl,ho,⟨hbw.os,hbw.tape,hbw.output,hbw.size,hbw.block⟩⟩
      case measure => simp [intOf]; omega
     rw [decide_eq_false hin];by_cases hq : y1 = y2
     ·have hqb : (y1 != y2) = false := by rw [bne_eq_false_iff_eq]; exact hq
      have hst : Hid (errL c wl er k = errL c wl er (k + 1)) := (errL_eq (by rw [← hy1.out,← hy2.out]; exact hq)).symm;clear hin hq;rw [hst.out] at ho ⊢;go_wp2_with (fail);go_quiet (fail);go_wp2_with (fail);go_roundw
      case rel => exact ⟨k + 1,A3,c3,by omega,by go_num,rfl,ho,⟨hbw.os,hbw.tape,hbw.output,hbw.size,hbw.block⟩⟩
      case measure => simp [intOf]; omega
     ·have hqb : (y1 != y2) = true := by rw [bne_iff_ne]; exact hq
      have hst : Hid (errL c wl er (k + 1) = errL c wl er k ++ [(k : Int)]) := errL_ne hin (by rw [← hy1.out,← hy2.out]; exact hq);clear hin hq;go_wp2_with (fail);go_quiet (fail);clear hd1 hd2;obtain ⟨W1,hW1⟩ : ∃ W1,W1 = w3.drewN nq := ⟨_,rfl⟩;have hoq : Own W1 w.heap.size (.slice A3 (errL c wl er k).length c3) (errL c wl er k) := by rw [hW1]; exact ho.out
      have hbq : Below w.heap.size w W1 := by rw [hW1]; exact ⟨hbw.os,hbw.tape,hbw.output,hbw.size,hbw.block⟩
      rw [← hW1];clear hW1 ho hbw;have hle : (errL c wl er k).length ≤ 1000000 := by have := errL_le c wl er k; omega
      have hsz : w.heap.size ≤ W1.heap.size := hbq.size;go_wp2_with (at_builtin; refine wpList_app1 rfl (.tmp 45) (.tmp 47) rfl w.heap.size _ _ _ hoq rfl rfl rfl hle hsz ?_; intro v' w' ho' hb' hg' hv');obtain ⟨A'',c'',e'',-,-,-⟩ := ho'.form;rw [← hst.out] at ho' e'';subst e'';go_roundw
      case rel => exact ⟨k + 1,A'',c'',by omega,by go_num,rfl,ho',hbq.trans hb'⟩
      case measure => simp [intOf]; omega
  ·obtain rfl : n = k := by omega
   obtain ⟨A'',c'',e'',-,hr',-⟩ := ho.out.form
   cases e''
   go_wp2_with (fail);go_ret;exact ⟨A3,c3,rfl,hr',hbw⟩

end
section
open Go.RowKit Cw
open Cw.CField (inv)

theorem word_sp (F : FD) (pts mul : List Int) {kn : Nat} {m : List Int} (h : m.length ≤ kn) : Span kn pts.length (gM F.toDesc pts mul) (fun j => eli F.toDesc ((wordL F.toDesc pts mul m)[j]?.getD 0)) := by
 refine ⟨cfR F.toDesc m,fun j hj => ?_⟩;dsimp only;rw [wordL_get F.toDesc hj,eli_ci,pevI_vl F.toDesc m _ h];unfold vl gM;rw [← rsum_mul_left];exact rsum_congr fun i _ => by ac_rfl
theorem sp_word (F : FD) (pts mul : List Int) {kn : Nat} {v : Nat → R F.toDesc} (h : Span kn pts.length (gM F.toDesc pts mul) v) : ∃ m : List Int,m.length = kn ∧ elB F.toDesc m = true ∧ wordL F.toDesc pts mul m = rowL F.toDesc pts.length v := by
 obtain ⟨c,hc⟩ := h;refine ⟨lst kn fun i => ci (c i),lst_length _ _,elB_iff.2 fun j hj => ?_,?_⟩
 ·rw [lst_length] at hj;rw [lst_get _ hj];exact ⟨ci_nonneg _,ci_lt _⟩
 ·refine lst_congr fun j hj => ?_
  rw [hc j hj,pevI_vl F.toDesc (lst kn fun i => ci (c i)) _ (N := kn) (by rw [lst_length]; exact Nat.le_refl _)];unfold vl gM;rw [← rsum_mul_left]
  congr 1
  exact rsum_congr fun i hi => by
   unfold cfR;rw [lst_get _ hi,eli_ci]
   ac_rfl
theorem imgL_get (S F : FD) (rt N : Nat) (u : Nat → R S.toDesc) {j : Nat} (hj : j < N) : (imgL S F rt N u)[j]?.getD 0 = ci (phi S F (rel F.toDesc rt) (u j)) := rowL_get _ _ hj
theorem imgL_len (S F : FD) (rt N : Nat) (u : Nat → R S.toDesc) : (imgL S F rt N u).length = N := rowL_length _ _ _
theorem imgL_elB (S F : FD) (rt N : Nat) (u : Nat → R S.toDesc) : elB F.toDesc (imgL S F rt N u) = true := elB_iff.2 fun j hj => by
 rw [imgL_len] at hj;rw [imgL_get S F rt N u hj];exact ⟨ci_nonneg _,ci_lt _⟩
section
variable {S F : FD} {rt kn : Nat} {pts mul er : List Int} {u v : Nat → R S.toDesc}
theorem err_img (hp : S.p = F.p) (h0 : muV S F (rel F.toDesc rt) = 0) (N : Nat) (er : List Int) (u v : Nat → R S.toDesc) : errL (imgL S F rt N v) (imgL S F rt N u) er N = errL (rowL S.toDesc N v) (rowL S.toDesc N u) er N :=
 errL_congr (fun i hi _ => by
  rw [imgL_get S F rt N v hi,imgL_get S F rt N u hi,rowL_get _ _ hi,rowL_get _ _ hi];exact ⟨fun h => congrArg ci (phi_inj (char_two hp) h0 (ci_inj h)),fun h => by rw [ci_inj h]⟩) N (Nat.le_refl N)
def AltW (S F : FD) (rt kn : Nat) (pts mul : List Int) (v : Nat → R S.toDesc) : Prop := Meets S F (rel F.toDesc rt) pts.length (pts.length - kn) (altH F pts mul) v
theorem altw_of (hz : gchkD F.toDesc kn pts mul = 0) {m : List Int} (hm : m.length ≤ kn) (h : wordL F.toDesc pts mul m = imgL S F rt pts.length v) : AltW S F rt kn pts mul v := by
 refine (meets_in hz (wl := imgL S F rt pts.length v) fun j hj => by rw [imgL_get S F rt _ v hj,eli_ci]).2 ((inB_iff hz).2 ?_);rw [← h];exact word_sp F pts mul hm
theorem altw_msg (hz : gchkD F.toDesc kn pts mul = 0) (h : AltW S F rt kn pts mul v) : ∃ m : List Int,m.length = kn ∧ elB F.toDesc m = true ∧ wordL F.toDesc pts mul m = imgL S F rt pts.length v := by
 have h1 := (inB_iff hz).1 ((meets_in hz (wl := imgL S F rt pts.length v) fun j hj => by rw [imgL_get S F rt _ v hj,eli_ci]).1 h);obtain ⟨m,hm,he,hw⟩ := sp_word F pts mul h1;refine ⟨m,hm,he,hw.trans (lst_congr fun j hj => ?_)⟩
 show ci (eli F.toDesc ((imgL S F rt pts.length v)[j]?.getD 0)) = _
 rw [imgL_get S F rt _ v hj,eli_ci]
def WinNo (S F : FD) (rt kn : Nat) (pts mul er : List Int) (u : Nat → R S.toDesc) : Prop := ∀ v,AltW S F rt kn pts mul v → pts.length < 2 * (errL (rowL S.toDesc pts.length v) (rowL S.toDesc pts.length u) er pts.length).length + er.length + kn
def WinOK (S F : FD) (rt kn : Nat) (pts mul er : List Int) (u v : Nat → R S.toDesc) : Prop := AltW S F rt kn pts mul v ∧ 2 * (errL (rowL S.toDesc pts.length v) (rowL S.toDesc pts.length u) er pts.length).length + er.length + kn ≤ pts.length
variable (hp : S.p = F.p) (h0 : muV S F (rel F.toDesc rt) = 0) (hz : gchkD F.toDesc kn pts mul = 0)
include hp h0 hz
theorem win_no (h : DecNo F.toDesc kn pts mul (imgL S F rt pts.length u) er) : WinNo S F rt kn pts mul er u := fun v hv => by
 obtain ⟨m,hm,-,hw⟩ := altw_msg hz hv;have h1 := h m (by omega);rw [hw,err_img hp h0] at h1;exact h1
theorem win_ok {m : List Int} (h : DecOK F.toDesc kn pts mul (imgL S F rt pts.length u) er m) (hw : wordL F.toDesc pts mul m = imgL S F rt pts.length v) : WinOK S F rt kn pts mul er u v := by
 refine ⟨altw_of hz (by have := h.1; omega) hw,?_⟩;have h1 := h.2.2;rw [hw,err_img hp h0] at h1;exact h1
theorem win_uniq (hr : ∀ x ∈ er,0 ≤ x ∧ x < (pts.length : Int)) (hd : er.Nodup) {m : List Int} (h : DecOK F.toDesc kn pts mul (imgL S F rt pts.length u) er m) (hv : WinOK S F rt kn pts mul er u v) : wordL F.toDesc pts mul m = imgL S F rt pts.length v := by
 obtain ⟨m',hm',-,hw⟩ := altw_msg hz hv.1;have h2 := hv.2;rw [← err_img hp h0,← hw] at h2;rw [← hw];exact dec_uniq hz (imgL_len S F rt pts.length u) (imgL_elB S F rt pts.length u) hr hd (by have := h.1; omega) (by omega) h.2.2 h2
theorem win_out (hr : ∀ x ∈ er,0 ≤ x ∧ x < (pts.length : Int)) (hd : er.Nodup) {m : List Int} (h : DecOK F.toDesc kn pts mul (imgL S F rt pts.length u) er m) {j : Nat} (hj : j < pts.length)
  (hne : ∀ x : R S.toDesc,ci (phi S F (rel F.toDesc rt) x) ≠ (wordL F.toDesc pts mul m)[j]?.getD 0) : WinNo S F rt kn pts mul er u := fun v hv => by
 refine Nat.lt_of_not_le fun hle => hne (v j) ?_
 rw [win_uniq hp h0 hz hr hd h ⟨hv,hle⟩,imgL_get S F rt _ v hj]
theorem win_two (hr : ∀ x ∈ er,0 ≤ x ∧ x < (pts.length : Int)) (hd : er.Nodup) {v' : Nat → R S.toDesc} (hv : WinOK S F rt kn pts mul er u v) (hv' : WinOK S F rt kn pts mul er u v') : ∀ j,j < pts.length → v j = v' j := by
 obtain ⟨m,hm,he,hw⟩ := altw_msg hz hv.1;have h2 := hv.2;rw [← err_img hp h0,← hw] at h2;have h1 := win_uniq hp h0 hz hr hd ⟨hm,he,h2⟩ hv';rw [hw] at h1;intro j hj;have h3 := congrArg (fun l : List Int => l[j]?.getD 0) h1;simp only [imgL_get S F rt _ _ hj] at h3;exact phi_inj (char_two hp) h0 (ci_inj h3)
end
theorem rad_iff {n kn f e : Nat} (hk : kn ≤ n) : (e : Int) ≤ radI ((n : Int) - (kn : Int) + 1) (f : Int) ↔ 2 * e + f + kn ≤ n := by
 by_cases h : (f : Int) ≤ (n : Int) - (kn : Int) + 1 - 1
 ·rw [radI_yes (by omega) (by omega) h];omega
 ·rw [radI_no (by omega)];omega
end
end Go.Proofs.YtjdoneanohhkmaaGreat
