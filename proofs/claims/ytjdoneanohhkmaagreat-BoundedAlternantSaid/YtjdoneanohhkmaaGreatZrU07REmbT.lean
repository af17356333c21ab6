/- The program's inner product and digits. Layer 39 of the program: Syndromes. Plain law of layer 39: the syndromes are 0 just for codewords. Layer 7 of the program: Embed. -/
import Derived.Test.YtjdoneanohhkmaaGreatZrU07RGrsA
import Derived.Test.YtjdoneanohhkmaaGreatZrU07RBndP
import Derived.Test.YtjdoneanohhkmaaGreatZrU07RDivP
import Derived.Test.YtjdoneanohhkmaaGreatZrU07RBndG
import Derived.Test.YtjdoneanohhkmaaGreatZrU07RTowE
import Derived.Test.YtjdoneanohhkmaaGreatZrU07RPoR
import Derived.Test.YtjdoneanohhkmaaGreatZrU07RGrsU
import Derived.Test.YtjdoneanohhkmaaGreatZrU07RTk
namespace Go.Proofs.YtjdoneanohhkmaaGreat
section
open Go.RowKit Cw
attribute [local go_sem] Oper.semAt_some

theorem keepc2 {B b1 o1 b2 o2 : Nat} {W w1 : World} {v0 v1 : Value} (hb : Below B W w1) (h1 : b1 < B) (h2 : b2 < B) (h : W.cell? ⟨b1,o1,none⟩ = some v0 ∧ W.cell? ⟨b2,o2,none⟩ = some v1) :
  w1.cell? ⟨b1,o1,none⟩ = some v0 ∧ w1.cell? ⟨b2,o2,none⟩ = some v1 :=
 ⟨(hb.cell (p := ⟨b1,o1,none⟩) h1).trans h.1,(hb.cell (p := ⟨b2,o2,none⟩) h2).trans h.2⟩

set_option maxHeartbeats 1000000 in
theorem gDot_any (D : FD) (a b : List Int) (n : Nat) (ha : a.length = n) (hb : b.length = n) (A1 A2 : Option Addr) (c1 c2 g : Nat) (w : World) (hg : GF w w.heap.size g D) (hr1 : Rd w w.heap.size A1 a) (hr2 : Rd w w.heap.size A2 b) (hn : n ≤ maxLen) :
  Calls Tryz.prog 215 #[.pointer (some ⟨g,0,none⟩),.slice A1 n c1,.slice A2 n c2] w fun e w' => e = .returned (.int .i64 (ci (rsum n fun i => eli D.toDesc (a[i]?.getD 0) * eli D.toDesc (b[i]?.getD 0)))) ∧ Below w.heap.size w w' := by
 unfold maxLen at hn;have hM := fun y z W hg => Lib.hid (gMul_any D y z g W hg)
 have hA := fun y z W hg => Lib.hid (gAdd_any D y z g W hg)
 have hmin : min (n : Int) (n : Int) = (n : Int) := Int.min_self _;replace ha := Lib.hid ha;replace hb := Lib.hid hb;go_enter Tryz.func215,Tryz.ntmps215;go_wp2_with (fail);go_loopw [14,7] (fun i o wr => ∃ k : Nat,k ≤ n ∧ i = .int .i64 k ∧ o = .int .i64 (ci (rsum k fun i => eli D.toDesc (a[i]?.getD 0) * eli D.toDesc (b[i]?.getD 0))) ∧ Below w.heap.size w wr) (fun i _ _ => n - (intOf i).toNat)
 case atStart => exact ⟨0,by omega,rfl,by rw [rsum_zero,ci_zero],Below.refl _ _⟩
 case round =>
  obtain ⟨k,hk,rfl,rfl,hbw⟩ := hrel;by_cases hlt : k < n
  ·have hk0 : (0 : Int) ≤ (k : Int) := by omega
   have hk1 : (k : Int) < (n : Int) := by omega
   obtain ⟨b1,o1,rfl,hb1,hc1⟩ := hr1.at_ (by rw [ha.out]; exact hlt : k < a.length);obtain ⟨b2,o2,rfl,hb2,hc2⟩ := hr2.at_ (by rw [hb.out]; exact hlt : k < b.length);have hd1 := (hbw.cell (p := ⟨b1,o1 + k,none⟩) hb1).trans hc1;have hd2 := (hbw.cell (p := ⟨b2,o2 + k,none⟩) hb2).trans hc2;obtain ⟨x,hx⟩ : ∃ x,x = a[k]?.getD 0 := ⟨_,rfl⟩;obtain ⟨y,hy⟩ : ∃ y,y = b[k]?.getD 0 := ⟨_,rfl⟩;rw [← hx] at hd1;rw [← hy] at hd2;have hA2 := fun W hg => (hA (ci (rsum k fun i => eli D.toDesc (a[i]?.getD 0) * eli D.toDesc (b[i]?.getD 0))) (ci (eli D.toDesc x * eli D.toDesc y)) W hg).out
   have hs : rsum k (fun i => eli D.toDesc (a[i]?.getD 0) * eli D.toDesc (b[i]?.getD 0)) + eli D.toDesc x * eli D.toDesc y = rsum (k + 1) (fun i => eli D.toDesc (a[i]?.getD 0) * eli D.toDesc (b[i]?.getD 0)) := by rw [rsum_succ,hx,hy]
   rw [eli_ci,eli_ci,hs] at hA2;replace hA2 := fun W hg => Lib.hid (hA2 W hg)
   have hM2 := fun W hg => hM x y W hg
   have hgr := (hg.below hbw).more hbw.size;have hbo1 : b1 < wr.heap.size := Nat.lt_of_lt_of_le hb1 hbw.size;have hbo2 : b2 < wr.heap.size := Nat.lt_of_lt_of_le hb2 hbw.size;have hcc := Lib.hid (show _ ∧ _ from ⟨hd1,hd2⟩);clear hc1 hc2 hs hx hy;go_wp2_with (fail);go_region_held3 (fun w' => w'.cell? ⟨b1,o1 + k,none⟩ = some (.int .i64 x) ∧ w'.cell? ⟨b2,o2 + k,none⟩ = some (.int .i64 y)) (first | exact hcc.out | exact hcc1.out | exact hcc2.out)
    (first
     | (go_at_call 140; (with_reducible refine (hM2 _ hgr.drew).out.mono ?_); rintro e w1 ⟨rfl,hb1'⟩; have hs1 : wr.heap.size ≤ w1.heap.size := hb1'.size; have hbt1 := (hbw.drew).trans (hb1'.mono hbw.size); have hcc1 := Lib.hid (keepc2 hb1' hbo1 hbo2 hcc.out); have hg1 := (hg.below hbt1).more hbt1.size)
     | (go_at_call 141; (with_reducible refine (hA2 _ hg1).out.mono ?_); rintro e w2 ⟨rfl,hb2'⟩; have hbt2 := hbt1.trans (hb2'.mono hbt1.size); have hcc2 := Lib.hid (keepc2 hb2' (Nat.lt_of_lt_of_le hbo1 hs1) (Nat.lt_of_lt_of_le hbo2 hs1) hcc1.out)))
   go_wp2_with (fail);go_roundw
   case rel => exact ⟨k + 1,by omega,by go_num,rfl,hbt2⟩
   case measure => simp [intOf]; omega
  ·obtain rfl : k = n := by omega
   go_wp2_with (fail);go_ret;exact ⟨rfl,hbw⟩

set_option maxHeartbeats 1000000 in
theorem gDigits_any (D : FD) (x : Int) (g : Nat) (w : World) (hg : GF w w.heap.size g D) :
  Calls Tryz.prog 216 #[.pointer (some ⟨g,0,none⟩),.int .i64 x] w fun e w' => ∃ gb,e = .returned (.slice (some ⟨gb,0,none⟩) D.m D.m) ∧ w.heap.size ≤ gb ∧ IB w' gb (dl (eli D.toDesc x)) ∧ Below w.heap.size w w' := by
 have hI := fun W hg => Lib.hid (gin_any D x g W hg)
 have hD := fun W => Lib.hid (digitsOf_ci D.toDesc (eli D.toDesc x) W)
 have k0 := Lib.hid (show _ ∧ _ from ⟨hg.c0,hg.c1⟩);have hgl := hg.lt;go_enter Tryz.func216,Tryz.ntmps216;go_wp2_with (fail);go_region_held3 (fun w' => w'.cell? ⟨g,0,none⟩ = some (.int .i64 D.p) ∧ w'.cell? ⟨g,1,none⟩ = some (.int .i64 D.m)) (first | exact k0.out | exact k2.out)
  (first
   | (go_at_call 180; (with_reducible refine (hI _ hg.drew).out.mono ?_); rintro e w1 ⟨rfl,rfl⟩)
   | (go_at_call 235; (with_reducible refine (hD _).out.mono ?_); rintro e w2 ⟨gb,rfl,hgb,hib,hb2⟩; have k2 := Lib.hid (keepc2 hb2 hgl hgl k0.out)))
 go_wp2_with (fail);go_ret;exact ⟨gb,rfl,hgb,hib,(Below.refl _ w).drew.trans hb2⟩
end
section
open Go.RowKit Cw
attribute [local go_sem] Oper.semAt_some

noncomputable def synL (F : FD) (K : Int) (pts mul wl : List Int) : List Int := lst ((pts.length : Int) - K).toNat fun i => ci (rsum pts.length fun j => eli F.toDesc ((rowsL F.toDesc pts.length (gM F.toDesc pts (dualL F pts mul)) i)[j]?.getD 0) * eli F.toDesc (wl[j]?.getD 0))
end
end Go.Proofs.YtjdoneanohhkmaaGreat

namespace Cw
section lagsyn
variable {F : Type} [CField F]
open CField (inv)
theorem lag_last {n : Nat} (hn : 1 ≤ n) (a : Nat → F) (hinj : ∀ i j,i < n → j < n → a i = a j → i = j) : rsum n (fun i => pw (a i) (n - 1) * inv (lval a i (a i) n)) = 1 := by
 have h := lag_top hn a hinj (fun t => if t = n - 1 then 1 else 0);rw [if_pos rfl] at h;rw [← h];exact rsum_congr fun i _ => by
  rw [rsum_single (k := n - 1) (by omega) (fun t _ ht => by rw [if_neg ht,zero_mul]),if_pos rfl,one_mul]
def lagc (a y : Nat → F) (n t : Nat) : F := rsum n fun i => y i * inv (lval a i (a i) n) * lcf a i n t
theorem lagc_val {n : Nat} (a y : Nat → F) (hinj : ∀ i j,i < n → j < n → a i = a j → i = j) {k : Nat} (hk : k < n) : rsum n (fun t => lagc a y n t * pw (a k) t) = y k := by
 have e1 : ∀ t,t < n → lagc a y n t * pw (a k) t = rsum n fun i => y i * inv (lval a i (a i) n) * (lcf a i n t * pw (a k) t) := fun t _ => by
  unfold lagc;rw [← rsum_mul_right];exact rsum_congr fun i _ => by rw [mul_a]
 rw [rsum_congr e1,rsum_swap];have e2 : ∀ i,i < n → rsum n (fun t => y i * inv (lval a i (a i) n) * (lcf a i n t * pw (a k) t)) = y i * inv (lval a i (a i) n) * lval a i (a k) n := fun i hi => by
  rw [rsum_mul_left,lcf_sum a i (a k) n n (by unfold ldeg; rw [if_pos hi]; omega)]
 rw [rsum_congr e2,rsum_single hk (fun i hi hik => by rw [lval_zero a (fun e => hik e.symm) n hk,mul_zero]),mul_a,inv_mul (lval_ne a hinj hk n (Nat.le_refl _)),mul_one]
theorem syn_coef {n N i : Nat} (a y c : Nat → F) (h : ∀ j,j < n → y j = rsum N fun t => c t * pw (a j) t) :
  rsum n (fun j => inv (lval a j (a j) n) * (pw (a j) i * y j)) = rsum N fun t => c t * rsum n fun j => pw (a j) (i + t) * inv (lval a j (a j) n) := by
 have e1 : ∀ j,j < n → inv (lval a j (a j) n) * (pw (a j) i * y j) = rsum N fun t => c t * (pw (a j) (i + t) * inv (lval a j (a j) n)) := fun j hj => by
  rw [h j hj,← rsum_mul_left,← rsum_mul_left];exact rsum_congr fun t _ => by rw [pw_add]; ac_rfl
 rw [rsum_congr e1,rsum_swap];exact rsum_congr fun t _ => by rw [rsum_mul_left]
theorem syn_iff {n kn : Nat} (hk : kn ≤ n) (hn : 1 ≤ n) (a y : Nat → F) (hinj : ∀ i j,i < n → j < n → a i = a j → i = j) :
  (∀ i,i < n - kn → rsum n (fun j => inv (lval a j (a j) n) * (pw (a j) i * y j)) = 0) ↔ ∃ c : Nat → F,∀ j,j < n → y j = rsum kn fun t => c t * pw (a j) t := by
 constructor
 ·intro h;have hv := fun j (hj : j < n) => (lagc_val a y hinj hj).symm
  have hz : ∀ d,d < n - kn → lagc a y n (n - 1 - d) = 0 := by
   intro d
   induction d using Nat.strongRecOn with
   | _ d ih =>
    intro hd;have h1 := h d hd;rw [syn_coef a y (lagc a y n) hv,rsum_single (k := n - 1 - d) (by omega) (fun t ht hne => ?_),show d + (n - 1 - d) = n - 1 by omega,lag_last hn a hinj,mul_one] at h1
    ·exact h1
    ·by_cases hlt : t < n - 1 - d
     ·rw [lag_pow (by omega) a hinj,mul_zero]
     ·have h2 := ih (n - 1 - t) (by omega) (by omega);rw [show n - 1 - (n - 1 - t) = t by omega] at h2;rw [h2,zero_mul]
  refine ⟨lagc a y n,fun j hj => ?_⟩;rw [hv j hj];refine rsum_tail hk fun t h1 h2 => ?_
  have h3 := hz (n - 1 - t) (by omega);rw [show n - 1 - (n - 1 - t) = t by omega] at h3;rw [h3,zero_mul]
 ·rintro ⟨c,hc⟩ i hi;rw [syn_coef a y c hc];exact rsum_eq_zero fun t ht => by rw [lag_pow (by omega) a hinj,mul_zero]
end lagsyn
end Cw
namespace Go.Proofs.YtjdoneanohhkmaaGreat
section
open Go.RowKit Cw
open Cw.CField (inv)
theorem wgt_zero_iff (l : List Int) : wgt l = 0 ↔ ∀ x ∈ l,x = 0 := by
 constructor
 ·intro h x hx;unfold wgt at h;have h1 := List.length_eq_zero_iff.1 h;have h2 := List.filter_eq_nil_iff.1 h1 x hx
  simpa using h2
 ·exact wgt_zero
theorem syn_has {F : FD} {kn : Nat} {pts mul wl : List Int} (hz : gchkD F.toDesc kn pts mul = 0) :
  (decide (wgt (synL F kn pts mul wl) = 0)) = inB F kn pts mul wl := by
 obtain ⟨hn1,-,hlen,hp,hm,ht,h0,hK0,hKn⟩ := gchkD_zero hz;have hinj := pts_inj hp ht;have hmi : ∀ i,i < pts.length → eli F.toDesc (mul[i]?.getD 0) ≠ 0 := fun i hi => eli_ne (elB_iff.1 hm i (by omega)) fun e => h0 (e ▸ mem_get (by omega))
 have hdu : ∀ i,i < pts.length → eli F.toDesc ((dualL F pts mul)[i]?.getD 0) = inv (eli F.toDesc (mul[i]?.getD 0)) * inv (lval (fun j => eli F.toDesc (pts[j]?.getD 0)) i (eli F.toDesc (pts[i]?.getD 0)) pts.length) := fun i hi => by
  rw [dualL_get hi];unfold dualV;rw [eli_ci,dprod_mul,dprod_lval,inv_mul_d]
 have key := syn_iff (F := R F.toDesc) (n := pts.length) (kn := kn) (by omega) hn1 (fun j => eli F.toDesc (pts[j]?.getD 0)) (fun j => inv (eli F.toDesc (mul[j]?.getD 0)) * eli F.toDesc (wl[j]?.getD 0)) hinj;have hs : ∀ i,rsum pts.length (fun j => eli F.toDesc ((rowsL F.toDesc pts.length (gM F.toDesc pts (dualL F pts mul)) i)[j]?.getD 0) * eli F.toDesc (wl[j]?.getD 0)) = rsum pts.length fun j => inv (lval (fun j => eli F.toDesc (pts[j]?.getD 0)) j (eli F.toDesc (pts[j]?.getD 0)) pts.length) * (pw (eli F.toDesc (pts[j]?.getD 0)) i * (inv (eli F.toDesc (mul[j]?.getD 0)) * eli F.toDesc (wl[j]?.getD 0))) := fun i => by
  refine rsum_congr fun j hj => ?_
  rw [rowsL,rowL_get _ _ hj,eli_ci];unfold gM;rw [hdu j hj]
  ac_rfl
 have h1 : wgt (synL F kn pts mul wl) = 0 ↔ ∀ i,i < pts.length - kn → rsum pts.length (fun j => inv (lval (fun j => eli F.toDesc (pts[j]?.getD 0)) j (eli F.toDesc (pts[j]?.getD 0)) pts.length) * (pw (eli F.toDesc (pts[j]?.getD 0)) i * (inv (eli F.toDesc (mul[j]?.getD 0)) * eli F.toDesc (wl[j]?.getD 0)))) = 0 := by
  rw [wgt_zero_iff];have hL : ((pts.length : Int) - (kn : Int)).toNat = pts.length - kn := by omega
  unfold synL;rw [hL];constructor
  ·intro h i hi;rw [← hs i];exact ci_eq_zero.1 (h _ (List.mem_map.2 ⟨i,List.mem_range.2 hi,rfl⟩))
  ·intro h x hx;obtain ⟨i,hi,rfl⟩ := List.mem_map.1 hx;have h2 := h i (List.mem_range.1 hi);rw [← hs i] at h2;exact ci_eq_zero.2 h2
 have h2 : (∃ c : Nat → R F.toDesc,∀ j,j < pts.length → inv (eli F.toDesc (mul[j]?.getD 0)) * eli F.toDesc (wl[j]?.getD 0) = rsum kn fun t => c t * pw (eli F.toDesc (pts[j]?.getD 0)) t) ↔ Span kn pts.length (gM F.toDesc pts mul) (fun j => eli F.toDesc (wl[j]?.getD 0)) := by
  have hg : ∀ (c : Nat → R F.toDesc) j,rsum kn (fun i => c i * gM F.toDesc pts mul i j) = eli F.toDesc (mul[j]?.getD 0) * rsum kn fun t => c t * pw (eli F.toDesc (pts[j]?.getD 0)) t := fun c j => by
   rw [← rsum_mul_left];exact rsum_congr fun t _ => by unfold gM; ac_rfl
  constructor
  ·rintro ⟨c,hc⟩;refine ⟨c,fun j hj => ?_⟩;rw [hg,← hc j hj,← mul_a,mul_inv (hmi j hj),one_mul]
  ·rintro ⟨c,hc⟩;refine ⟨c,fun j hj => ?_⟩;have h3 := hc j hj;dsimp only at h3;rw [h3,hg,← mul_a,inv_mul (hmi j hj),one_mul]
 have h3 := (h1.trans key).trans (h2.trans (inB_iff hz).symm)
 cases hb : inB F kn pts mul wl with
 | true => exact decide_eq_true (h3.2 hb)
 | false => exact decide_eq_false fun h => by rw [h3.1 h] at hb; cases hb
end
section
open Go.RowKit Go.Shelf Cw
attribute [local go_sem] Oper.semAt_some

def ewl {D : FD} (r : R D.toDesc) (n : Nat) : List Int := lst n fun i => ci (pw r i)
theorem ewl_length {D : FD} (r : R D.toDesc) (n : Nat) : (ewl r n).length = n := lst_length _ _
theorem ewl_get {D : FD} (r : R D.toDesc) {n i : Nat} (h : i < n) : (ewl r n)[i]?.getD 0 = ci (pw r i) := lst_get _ h
theorem ewl_succ {D : FD} (r : R D.toDesc) (n : Nat) : ewl r (n + 1) = ewl r n ++ [ci (pw r n)] := lst_succ _ _
theorem ewl_one {D : FD} (r : R D.toDesc) : ewl r 1 = [1] := by
 rw [ewl_succ,pw_zero,ci_one]; rfl
theorem dot_phi (S F : FD) (hp : S.p = F.p) (r : R F.toDesc) (u : R S.toDesc) : (rsum S.m fun i => eli F.toDesc ((dl u)[i]?.getD 0) * eli F.toDesc ((ewl r S.m)[i]?.getD 0)) = phi S F r u :=
 rsum_congr fun i hi => by rw [kz_dl S F hp u hi,ewl_get r hi,eli_ci]

set_option maxHeartbeats 1000000 in
theorem tEmbed_no (S F : FD) (A : Option Addr) (c g : Nat) (w : World) (hg : GF w w.heap.size g F) (hr : Rd w w.heap.size A (modL S.toDesc)) (hS : Good S.p S.m (modL S.toDesc)) (hno : ¬ (S.p = F.p ∧ divB F.m S.m = true)) :
  Calls Tryz.prog 161 #[.agg #[.int .i64 S.p,.int .i64 S.m,.slice A S.mod.length c],.pointer (some ⟨g,0,none⟩)] w fun e w' => e = .returned (.tuple #[.slice none 0 0,.int .i64 10]) ∧ Below w.heap.size w w' := by
 have hB : Below w.heap.size w (w.alloc (.cells #[.int .i64 S.p,.int .i64 S.m,.slice A S.mod.length c] 24)) := (Below.refl _ _).alloc (Nat.le_refl _) _;have hbx := Bx.new w S.toDesc A S.mod.length c 24;have hN := Lib.hid (New_good S.toDesc A c _ ((hr.below hB).more hB.size) hS);have hgl := hg.lt;by_cases hp : S.p = F.p
 ·have hd : divB F.m S.m = false := by rw [← Bool.not_eq_true]; exact fun h => hno ⟨hp,h⟩
  have hI := fun W h => isDegree_any F S.m g W h
  rw [hd] at hI;replace hI := fun W h => Lib.hid (hI W h)
  have hpp : ((S.p : Int) != (F.p : Int)) = false := by rw [hp]; simp
  clear hS hno hd hp;go_enter Tryz.func161,Tryz.ntmps161;go_wp2_with (fail);(with_reducible refine hN.out.mono ?_);rintro e w1 ⟨g1,H,hH,rfl,hg1,hgf,hb1⟩;replace hH := Lib.hid hH;have hB1 := hB.trans (hb1.mono hB.size);have hg1 := (hg.below hB1).more hB1.size;have hT := Lib.hid (tprime_any F g w1 hg1);go_wp2_with (fail);(with_reducible refine hT.out.mono ?_);rintro e w2 ⟨rfl,hb2⟩;have hB2 := hB1.trans (hb2.mono hB1.size);have hg2 := (hg.below hB2).more hB2.size;have hs1 : w.heap.size < w1.heap.size := by have := hb1.size; simp only [World.size_alloc] at this; omega
  obtain ⟨q0,q1,q2⟩ := ((hbx.below hb1 (by simp)).below hb2 hs1).cells;have hI2 := hI w2 hg2;go_wp2_with (fail);(with_reducible refine hI2.out.mono ?_);rintro e w3 ⟨rfl,hb3⟩;clear q0 q1 q2;go_wp2_with (fail);go_ret2;exact ⟨rfl,hB2.trans (hb3.mono hB2.size)⟩
 ·have hpp : ((S.p : Int) != (F.p : Int)) = true := by rw [bne_iff_ne]; omega
  clear hS hno hp;go_enter Tryz.func161,Tryz.ntmps161;go_wp2_with (fail);(with_reducible refine hN.out.mono ?_);rintro e w1 ⟨g1,H,hH,rfl,hg1,hgf,hb1⟩;replace hH := Lib.hid hH;have hB1 := hB.trans (hb1.mono hB.size);have hg1 := (hg.below hB1).more hB1.size;have hT := Lib.hid (tprime_any F g w1 hg1);go_wp2_with (fail);(with_reducible refine hT.out.mono ?_);rintro e w2 ⟨rfl,hb2⟩;have hB2 := hB1.trans (hb2.mono hB1.size);have hs1 : w.heap.size < w1.heap.size := by have := hb1.size; simp only [World.size_alloc] at this; omega
  obtain ⟨q0,q1,q2⟩ := ((hbx.below hb1 (by simp)).below hb2 hs1).cells;go_wp2_with (fail);go_ret2;exact ⟨rfl,hB2⟩

set_option maxRecDepth 100000 in
set_option maxHeartbeats 4000000 in
theorem tEmbed_yes (S F : FD) (rt : Nat) (A : Option Addr) (c g : Nat) (w : World) (hg : GF w w.heap.size g F) (hr : Rd w w.heap.size A (modL S.toDesc)) (hS : Good S.p S.m (modL S.toDesc)) (hp : S.p = F.p) (hd : divB F.m S.m = true) (hrt : IsRt S F rt) :
  Calls Tryz.prog 161 #[.agg #[.int .i64 S.p,.int .i64 S.m,.slice A S.mod.length c],.pointer (some ⟨g,0,none⟩)] w fun e w' => ∃ v,e = .returned (.tuple #[v,.int .i64 0]) ∧ Own w' w.heap.size v (embL S F rt) ∧ Below w.heap.size w w' := by
 have hm8 := S.m8; have hm1 := S.m1;have hq8 := S.q256;have hmk := mk_ints S.q (by omega);obtain ⟨f,hf⟩ : ∃ f : Nat → Int,f = fun x => ci (phi S F (rel F.toDesc rt) (rel S.toDesc x)) := ⟨_,rfl⟩
 replace hf := Lib.hid hf;have hB : Below w.heap.size w (w.alloc (.cells #[.int .i64 S.p,.int .i64 S.m,.slice A S.mod.length c] 24)) := (Below.refl _ _).alloc (Nat.le_refl _) _;have hbx := Bx.new w S.toDesc A S.mod.length c 24;have hN := Lib.hid (New_good S.toDesc A c _ ((hr.below hB).more hB.size) hS);have hgl := hg.lt;have hI := fun W h => isDegree_any F S.m g W h
 rw [hd] at hI;replace hI := fun W h => Lib.hid (hI W h)
 have hpp : ((S.p : Int) != (F.p : Int)) = false := by rw [hp]; simp
 replace hp := Lib.hid hp;clear hS hd;go_enter Tryz.func161,Tryz.ntmps161;go_wp2_with (fail);(with_reducible refine hN.out.mono ?_);rintro e w1 ⟨g1,H,hH,rfl,hg1l,hgf,hb1⟩;have hHq : Hid (H.q = S.q) := by unfold Hid; show H.toDesc.q = S.toDesc.q; rw [hH]
 replace hH := Lib.hid hH;have hB1 := hB.trans (hb1.mono hB.size);have hg1 := (hg.below hB1).more hB1.size;have hT := Lib.hid (tprime_any F g w1 hg1);go_wp2_with (fail);(with_reducible refine hT.out.mono ?_);rintro e w2 ⟨rfl,hb2⟩;have hB2 := hB1.trans (hb2.mono hB1.size);have hg2 := (hg.below hB2).more hB2.size;have hs1 : w.heap.size < w1.heap.size := by have := hb1.size; simp only [World.size_alloc] at this; omega
 have hs2 : w.heap.size < w2.heap.size := Nat.lt_of_lt_of_le hs1 hb2.size;have hbx2 := (hbx.below hb1 (by simp)).below hb2 hs1;have hgf2 := (hgf.below hb2).more hb2.size;obtain ⟨q0,q1,q2⟩ := hbx2.cells;have hI2 := hI w2 hg2;go_wp2_with (fail);(with_reducible refine hI2.out.mono ?_);rintro e w3 ⟨rfl,hb3⟩;clear q0 q1 q2;have hB3 := hB2.trans (hb3.mono hB2.size);have hs3 : w.heap.size < w3.heap.size := Nat.lt_of_lt_of_le hs2 hb3.size;have hbx3 := hbx2.below hb3 hs2;have hgf3 := (hgf2.below hb3).more hb3.size;have hg3 := (hg.below hB3).more hB3.size;obtain ⟨X,hX⟩ : ∃ X,X = w3.alloc (.cells #[.int .i64 1] 3) := ⟨_,rfl⟩;have hXs : X.heap.size = w3.heap.size + 1 := by rw [hX]; simp
 have hbX : Below w3.heap.size w3 X := by rw [hX]; exact (Below.refl _ _).alloc (Nat.le_refl _) _
 have hown : Own X w3.heap.size (.slice (some ⟨w3.heap.size,0,none⟩) 1 1) (ewl (rel F.toDesc rt) 1) := by
  rw [ewl_one,hX];exact Own.of_IB (IB.new w3 [1]) (Nat.le_refl _) (by simp [maxLen])
 have hbxX := hbx3.below hbX hs3;obtain ⟨q0,q1,q2⟩ := hbxX.cells;rw [hX] at q0 q1 q2;replace hX := Lib.hid hX;clear hbx hbx2 hN hI hI2 hT hgf hgf2 hg1 hg2 hb1 hb2 hb3 hB hB1 hB2;by_cases hm : S.m = 1
 ·have hmd : decide (1 < (S.m : Int)) = false := by simp; omega
  go_wp2_with (fail);rw [← hX.out];clear q0 q1 q2;have hoT : Own X w3.heap.size (.slice (some ⟨w3.heap.size,0,none⟩) 1 1) (ewl (rel F.toDesc rt) S.m) := by rw [hm]; exact hown
  replace hm := Lib.hid hm;generalize (Value.slice (some ⟨w3.heap.size,0,none⟩) 1 1) = oT at *;obtain ⟨Wt,rfl⟩ : ∃ W : World,W = X := ⟨_,rfl⟩;have hbT := hbX;have hBT := hB3.trans (hbT.mono hB3.size);clear hown hbxX hbX hXs hX;have hgT := (hg3.below hbT).more hbT.size;have hfT := (hgf3.below hbT).more hbT.size;have hO := gOrder_any H g1 Wt hfT;rw [hHq.out] at hO;replace hO := Lib.hid hO;obtain ⟨Ap,cp,rfl,-,hrp,-⟩ := hoT.form;rw [ewl_length];replace hHq := hHq;obtain ⟨Y,hY⟩ : ∃ Y,Y = Wt.alloc (.cells (Array.replicate S.q (Value.int .i64 0)) 3) := ⟨_,rfl⟩;have hib : IB Y Wt.heap.size (upd S.q 0 f) := by rw [upd_zero,hY]; exact IB.newz Wt S.q
  have hbY : Below Wt.heap.size Wt Y := by rw [hY]; exact (Below.refl _ _).alloc (Nat.le_refl _) _
  replace hY := Lib.hid hY;go_wp2_with (fail);(with_reducible refine hO.out.mono ?_);rintro e wz ⟨rfl,rfl⟩;go_wp2_with (fail);rw [← hY.out];go_loopw [82] (fun i wr => ∃ k : Nat,k ≤ S.q ∧ i = .int .i64 k ∧ IB wr Wt.heap.size (upd S.q k f) ∧ Below Wt.heap.size Wt wr) (fun i _ => S.q - (intOf i).toNat)
  case atStart => exact ⟨0,by omega,rfl,hib,hbY⟩
  case round =>
   obtain ⟨k,hk,rfl,hibk,hbw⟩ := hrel;obtain ⟨w8,rfl⟩ : ∃ w8 : World,w8 = wr := ⟨_,rfl⟩;clear hib hbY;by_cases hlt : k < S.q
   ·have hk0 : (0 : Int) ≤ (k : Int) := by omega
    have hk1 : (k : Int) < (S.q : Int) := by omega
    have hD := gDigits_any H k g1 w8 ((hfT.below hbw).more hbw.size);rw [hH.out,eli_nat (D := S.toDesc) hlt] at hD;have hDt := fun A' c' W a b d => gDot_any F (dl (rel S.toDesc k)) (ewl (rel F.toDesc rt) S.m) S.m (dl_length _) (ewl_length _ _) A' Ap c' cp g W a b d (by unfold maxLen; omega)
    rw [dot_phi S F hp.out,show ci (phi S F (rel F.toDesc rt) (rel S.toDesc k)) = f k from by rw [hf.out]] at hDt;replace hD := Lib.hid hD;replace hDt := fun A' c' W a b d => Lib.hid (hDt A' c' W a b d)
    obtain ⟨y,hy⟩ : ∃ y,y = f k := ⟨_,rfl⟩;have hl8 := hibk.lt;rw [← hy] at hDt;replace hy := Lib.hid hy;go_wp2_with (fail);(with_reducible refine hD.out.mono ?_);rintro e w9 ⟨gb,rfl,hgb,hib9,hb9⟩;have hbw9 := hbw.trans (hb9.mono hbw.size);have hDt2 := hDt (some ⟨gb,0,none⟩) S.m w9 ((hgT.below hbw9).more hbw9.size) hib9.rd ((hrp.below hbw9).more hbw9.size);go_wp2_with (fail);(with_reducible refine hDt2.out.mono ?_);rintro e w10 ⟨rfl,hb10⟩;have hbw10 := hbw9.trans (hb10.mono hbw9.size);have hib10 := (hibk.below hb9 hl8).below hb10 (Nat.lt_of_lt_of_le hl8 hb9.size);have hkk : k < (upd S.q k f).length := by rw [upd_length]; exact hlt
    have hcW := hib10.cell hkk;have hfW := hib10.frozen k;have hset := hib10.set_ k y;rw [hy.out,upd_set,← hy.out] at hset;replace hset := Lib.hid hset;have hbs : Below Wt.heap.size Wt (w10.setCell ⟨Wt.heap.size,k,none⟩ (.int .i64 y)) := hbw10.setCell (p := ⟨Wt.heap.size,k,none⟩) (Nat.le_refl _) _;clear hkk;go_wp2_with (fail);go_roundw
    case rel => exact ⟨k + 1,by omega,by go_num,hset.out,hbs⟩
    case measure => simp [intOf]; omega
   ·obtain rfl : k = S.q := by omega
    rw [upd_full] at hibk;go_wp2_with (fail);go_ret2;have hfin := Own.of_IB hibk (B := w.heap.size) (Nat.le_trans hBT.size (Nat.le_refl _)) (by rw [lst_length]; unfold maxLen; omega);rw [lst_length] at hfin;refine ⟨_,rfl,?_,hBT.trans (hbw.mono hBT.size)⟩;unfold embL;rw [← hf.out];exact hfin
 ·have hmd : decide (1 < (S.m : Int)) = true := by simp; omega
  have hl1 := S.hlen;rw [if_neg hm] at hl1;have hlm : (modL S.toDesc).length = S.mod.length := modL_length _;have hR := fun A5 c5 W a b => pRoots_any F (monL S) A5 c5 g W a b (by rw [monL_length S hm]; omega) (canI_mon S F hm)
  obtain ⟨t,ht⟩ := rootF_head hp.out hm hrt;rw [show upI F.q = lst F.q (fun i => (i : Int)) from rfl,ht] at hR;obtain ⟨rl,hrl⟩ : ∃ rl,rl = (rt : Int) :: t := ⟨_,rfl⟩;rw [← hrl] at hR;have hrl0 : Hid (rl[0]?.getD 0 = (rt : Int)) := by rw [hrl]; rfl
  have hrlp : 0 < rl.length := by rw [hrl]; simp
  have hrlz : ((rl.length : Int) == 0) = false := by rw [beq_eq_false_iff_ne]; omega
  have hownE : Own (X.alloc (.cells #[] 3)) X.heap.size (.slice (some ⟨w3.heap.size + 1,0,none⟩) 0 0) [] := by
   rw [← hXs];exact Own.of_IB (IB.new X []) (Nat.le_refl _) (by simp [maxLen])
  have hbXE : Below X.heap.size X (X.alloc (.cells #[] 3)) := (Below.refl _ _).alloc (Nat.le_refl _) _;have hBE := (hB3.trans (hbX.mono hB3.size)).trans (hbXE.mono (Nat.le_trans hB3.size hbX.size));have hrE := hr.below hBE;have hsE := hbXE.size;rw [hX.out] at hownE hbXE hrE hsE;replace hrl := Lib.hid hrl;replace ht := Lib.hid ht;replace hl1 := Lib.hid hl1;replace hm := Lib.hid hm;replace hXs := Lib.hid hXs;go_wp2_with (first
   | (at_builtin; refine wpList_appN rfl _ _ rfl X.heap.size _ [] w.heap.size A c (modL S.toDesc) (by rw [hX.out]; exact hownE) hrE rfl rfl hlm.symm (by rw [hlm,hl1.out]; simp; omega) (by rw [hX.out]; exact hsE) ?_; intro v4 w4 ho4 hb4 _ _; rw [List.nil_append] at ho4)
   | (at_builtin; refine wpList_app1 rfl _ _ rfl X.heap.size _ _ _ ho4 rfl rfl rfl (by rw [hlm,hl1.out]; omega) (Nat.le_trans (by rw [hX.out]; exact hsE) hb4.size) ?_; intro v5 w5 ho5 hb5 _ _; rw [show modL S.toDesc ++ [1] = monL S from rfl] at ho5))
  rw [← hX.out] at hb4 hbXE;have hbX5 := (hbXE.trans hb4).trans hb5;have hbw5 := hbX.trans (hbX5.mono hbX.size);have hB5 := hB3.trans (hbw5.mono hB3.size);have ho5p := hown.below hbX5 (Nat.le_refl _);obtain ⟨A5,c5,rfl,-,hr5,-⟩ := ho5.form;have hR5 := Lib.hid (hR A5 c5 w5 ((hg.below hB5).more hB5.size) hr5);clear hR hownE hrE hsE hbXE hb4 hb5 q0 q1 q2;(with_reducible refine hR5.out.mono ?_);rintro e w6 ⟨v6,rfl,ho6,hb6⟩;have hbw6 := hbw5.trans (hb6.mono hbw5.size);have ho6p := ho5p.below hb6 (Nat.le_refl _);obtain ⟨A6,c6,rfl,-,hr6,hA6⟩ := ho6.form;obtain ⟨b6,o6,rfl,-,-⟩ := hr6.at_ hrlp;have hdis : Dis (.slice (some ⟨w3.heap.size,0,none⟩) 1 1) (.slice (some ⟨b6,o6,none⟩) rl.length c6) := fun k h1 h2 => by
   have := ho5p.lt k h1; have := ho6.lt k h2; omega
  have ho6b : Own w6 w3.heap.size (.slice (some ⟨b6,o6,none⟩) rl.length c6) rl := ho6.base hbw5.size;clear hR5 ho5 hr5 ho5p hr6 hA6 hb6 ho6;obtain ⟨q0,q1,q2⟩ := (hbx3.below hbw6 hs3).cells;go_wp2_with (fail);generalize (Value.slice (some ⟨w3.heap.size,0,none⟩) 1 1) = o0 at *;clear q0 q1 q2;go_loopw [10,13] (fun o i wr => ∃ k : Nat,1 ≤ k ∧ k ≤ S.m ∧ i = .int .i64 k ∧ Own wr w3.heap.size o (ewl (rel F.toDesc rt) k) ∧ Own wr w3.heap.size (.slice (some ⟨b6,o6,none⟩) rl.length c6) rl ∧ Dis o (.slice (some ⟨b6,o6,none⟩) rl.length c6) ∧ Below w3.heap.size w3 wr) (fun _ i _ => S.m - (intOf i).toNat)
  case atStart => exact ⟨1,by omega,hm1,rfl,ho6p,ho6b,hdis,hbw6⟩
  case round =>
   obtain ⟨k,hk1,hkm,rfl,hop,hor,hds,hbT⟩ := hrel;obtain ⟨Wt,rfl⟩ : ∃ W : World,W = wr := ⟨_,rfl⟩;clear ho6p ho6b hdis hbw6;obtain ⟨q0,q1,q2⟩ := (hbx3.below hbT hs3).cells;by_cases hlt : k < S.m
   ·obtain ⟨k',hk'⟩ : ∃ k',k = k' + 1 := ⟨k - 1,by omega⟩;have hwr := wrap_pred hk' (by omega);have hk0 : (0 : Int) ≤ (k : Int) := by omega
    have hk2 : (k : Int) < (S.m : Int) := by omega
    have hj0 : (0 : Int) ≤ (k' : Int) := by omega
    have hj1 : (k' : Int) < (k : Int) := by omega
    have hrl1 : (0 : Int) < (rl.length : Int) := by omega
    obtain ⟨Ap,cp,rfl,-,hrp,-⟩ := hop.form;rw [ewl_length] at hds hop ⊢;have hkl : k' < (ewl (rel F.toDesc rt) k).length := by rw [ewl_length]; omega
    obtain ⟨bp,op,rfl,hbp,hcp⟩ := hrp.at_ hkl;rw [ewl_get _ (by omega)] at hcp;have hcr : Wt.cell? ⟨b6,o6,none⟩ = some (.int .i64 (rl[0]?.getD 0)) := hor.cell0 hrlp;rw [hrl0.out] at hcr;have hMl := fun W h => gMul_any F (ci (pw (rel F.toDesc rt) k')) (rt : Int) g W h
    rw [eli_ci,eli_nat (D := F.toDesc) hrt.1,← pw_succ,← hk'] at hMl;obtain ⟨y1,hy1⟩ : ∃ y1,y1 = ci (pw (rel F.toDesc rt) k') := ⟨_,rfl⟩;obtain ⟨y,hy⟩ : ∃ y,y = ci (pw (rel F.toDesc rt) k) := ⟨_,rfl⟩;rw [← hy1] at hMl hcp;rw [← hy] at hMl;have hgT := (hg3.below hbT).more hbT.size;have hM2 := Lib.hid (hMl Wt.drew hgT.drew);have hle : (ewl (rel F.toDesc rt) k).length + [y].length ≤ 1000000000 := by rw [ewl_length]; simp; omega
    have hsuc : ewl (rel F.toDesc rt) k ++ [y] = ewl (rel F.toDesc rt) (k + 1) := by rw [hy,ewl_succ]
    have hb6l : b6 < Wt.heap.size := (hor.lt b6 rfl).2;have hcc := Lib.hid hcr;replace hk' := Lib.hid hk';replace hy1 := Lib.hid hy1;replace hy := Lib.hid hy;replace hsuc := Lib.hid hsuc;replace hrt := Lib.hid hrt;clear hMl hcr;go_wp2_with (fail);refine wp_region_held_drew (S := fun w' => w'.cell? ⟨b6,o6,none⟩ = some (.int .i64 (rt : Int))) (by kernel_rfl) (by (try dsimp only); exact hcc.out) (fun hHeld => ?_);refine tk 0 ?_; try simp only [pS]
    refine tk 1 ?_; try simp only [pS]
    refine tk 2 ?_; try simp only [pS]
    refine tk 3 ?_; try simp only [pS]
    refine tk 4 ?_; try simp only [pS]
    refine tk 5 ?_; try simp only [pS]
    refine tk 7 ?_; try simp only [pS]
    refine tk 8 ?_; try simp only [pS]
    refine tk 9 ?_; try simp only [pS]
    refine rd 6 fun K hK => ?_
    go_simp;refine hK.out _ _ (by (try dsimp only); exact hcc.out) (fun hHeld => ?_);clear hK K;try simp only [pS]
    refine rd 10 fun K hK => ?_
    go_simp;go_at_call 140;(with_reducible refine (hM2).out.mono ?_);rintro e w7 ⟨rfl,hb7⟩;have hcc7 : Hid (w7.cell? ⟨b6,o6,none⟩ = some (.int .i64 (rt : Int))) := Lib.hid ((hb7.cell (p := ⟨b6,o6,none⟩) hb6l).trans hcc.out);have hs7 : Wt.heap.size ≤ w7.heap.size := hb7.size;have hbA7 : Below w7.heap.size w7 (w7.alloc (.cells #[.int .i64 y] 3)) := (Below.refl _ _).alloc (Nat.le_refl _) _;have hb78 := (Below.refl Wt.heap.size Wt).drew.trans (hb7.trans (hbA7.mono hs7));have hop7 := hop.below hb78 (Nat.le_refl _);have hor7 := hor.below hb78 (Nat.le_refl _);have hr7 : Rd (w7.alloc (.cells #[.int .i64 y] 3)) (w7.heap.size + 1) (some ⟨w7.heap.size,0,none⟩) [y] := by have := (IB.new w7 [y]).rd; rw [World.size_alloc] at this; exact this
    go_wp2_with (fail);refine hK.out _ _ (by (try dsimp only); exact hcc7.out) (fun hHeld => ?_);clear hK K;try simp only [pS]
    refine rd 11 fun K hK => ?_
    go_simp;refine hK.out _ _ (by (try dsimp only); exact (hbA7.cell (p := ⟨b6,o6,none⟩) (Nat.lt_of_lt_of_le hb6l hs7)).trans hcc7.out) (fun hHeld => ?_);clear hK K;try simp only [pS]
    refine rd 12 fun K hK => ?_
    refine step_appN (n2 := 1) rfl (.tmp 64) (.tmp 75) rfl w3.heap.size _ (ewl (rel F.toDesc rt) k) (w7.heap.size + 1) (some ⟨w7.heap.size,0,none⟩) 1 [y] hop7 hr7 (by rfl) (by rfl) (by rfl) hle (Nat.le_trans hbT.size (Nat.le_trans hs7 hbA7.size)) ?_;intro v8 w8 ho8 hb8 hg8 hv8;have hor8 := hor7.kept hg8 hds.symm.ne;have hcc8 : w8.cell? ⟨b6,o6,none⟩ = some (.int .i64 (rl[0]?.getD 0)) := hor8.cell0 hrlp;rw [hrl0.out] at hcc8;replace hcc8 := Lib.hid hcc8;refine hK.out _ _ (by (try dsimp only); exact hcc8.out) (fun hHeld => ?_);clear hK K;try simp only [pS]
    refine tk 13 ?_; try simp only [pS]
    refine wpAnyH_done (by kernel_rfl) ?_ _;rw [hsuc.out] at ho8;have hds8 := hds.step (fun k h => hor7.lt k h) hv8;have hb18 := hbT.trans ((hb78.mono hbT.size).trans hb8);clear q0 q1 q2;go_wp2_with (fail);go_roundw
    case rel => exact ⟨k + 1,by omega,by omega,by go_num,ho8,hor8,hds8,hb18⟩
    case measure => simp [intOf]; omega
   ·obtain hkm2 : k = S.m := by omega
    have hoT := hop;rw [hkm2] at hoT ⊢;have hBT := hB3.trans (hbT.mono hB3.size);replace hm := hm;clear hop hkm2 hds hor;have hgT := (hg3.below hbT).more hbT.size;have hfT := (hgf3.below hbT).more hbT.size;have hO := gOrder_any H g1 Wt hfT;rw [hHq.out] at hO;replace hO := Lib.hid hO;obtain ⟨Ap,cp,rfl,-,hrp,-⟩ := hoT.form;rw [ewl_length];replace hHq := hHq;obtain ⟨Y,hY⟩ : ∃ Y,Y = Wt.alloc (.cells (Array.replicate S.q (Value.int .i64 0)) 3) := ⟨_,rfl⟩;have hib : IB Y Wt.heap.size (upd S.q 0 f) := by rw [upd_zero,hY]; exact IB.newz Wt S.q
    have hbY : Below Wt.heap.size Wt Y := by rw [hY]; exact (Below.refl _ _).alloc (Nat.le_refl _) _
    replace hY := Lib.hid hY;go_wp2_with (fail);(with_reducible refine hO.out.mono ?_);rintro e wz ⟨rfl,rfl⟩;go_wp2_with (fail);rw [← hY.out];go_loopw [82] (fun i wr => ∃ k : Nat,k ≤ S.q ∧ i = .int .i64 k ∧ IB wr Wt.heap.size (upd S.q k f) ∧ Below Wt.heap.size Wt wr) (fun i _ => S.q - (intOf i).toNat)
    case atStart => exact ⟨0,by omega,rfl,hib,hbY⟩
    case round =>
     obtain ⟨k,hk,rfl,hibk,hbw⟩ := hrel;obtain ⟨w8,rfl⟩ : ∃ w8 : World,w8 = wr := ⟨_,rfl⟩;clear hib hbY;by_cases hlt : k < S.q
     ·have hk0 : (0 : Int) ≤ (k : Int) := by omega
      have hk1 : (k : Int) < (S.q : Int) := by omega
      have hD := gDigits_any H k g1 w8 ((hfT.below hbw).more hbw.size);rw [hH.out,eli_nat (D := S.toDesc) hlt] at hD;have hDt := fun A' c' W a b d => gDot_any F (dl (rel S.toDesc k)) (ewl (rel F.toDesc rt) S.m) S.m (dl_length _) (ewl_length _ _) A' Ap c' cp g W a b d (by unfold maxLen; omega)
      rw [dot_phi S F hp.out,show ci (phi S F (rel F.toDesc rt) (rel S.toDesc k)) = f k from by rw [hf.out]] at hDt;replace hD := Lib.hid hD;replace hDt := fun A' c' W a b d => Lib.hid (hDt A' c' W a b d)
      obtain ⟨y,hy⟩ : ∃ y,y = f k := ⟨_,rfl⟩;have hl8 := hibk.lt;rw [← hy] at hDt;replace hy := Lib.hid hy;go_wp2_with (fail);(with_reducible refine hD.out.mono ?_);rintro e w9 ⟨gb,rfl,hgb,hib9,hb9⟩;have hbw9 := hbw.trans (hb9.mono hbw.size);have hDt2 := hDt (some ⟨gb,0,none⟩) S.m w9 ((hgT.below hbw9).more hbw9.size) hib9.rd ((hrp.below hbw9).more hbw9.size);go_wp2_with (fail);(with_reducible refine hDt2.out.mono ?_);rintro e w10 ⟨rfl,hb10⟩;have hbw10 := hbw9.trans (hb10.mono hbw9.size);have hib10 := (hibk.below hb9 hl8).below hb10 (Nat.lt_of_lt_of_le hl8 hb9.size);have hkk : k < (upd S.q k f).length := by rw [upd_length]; exact hlt
      have hcW := hib10.cell hkk;have hfW := hib10.frozen k;have hset := hib10.set_ k y;rw [hy.out,upd_set,← hy.out] at hset;replace hset := Lib.hid hset;have hbs : Below Wt.heap.size Wt (w10.setCell ⟨Wt.heap.size,k,none⟩ (.int .i64 y)) := hbw10.setCell (p := ⟨Wt.heap.size,k,none⟩) (Nat.le_refl _) _;clear hkk;go_wp2_with (fail);go_roundw
      case rel => exact ⟨k + 1,by omega,by go_num,hset.out,hbs⟩
      case measure => simp [intOf]; omega
     ·obtain rfl : k = S.q := by omega
      rw [upd_full] at hibk;go_wp2_with (fail);go_ret2;have hfin := Own.of_IB hibk (B := w.heap.size) (Nat.le_trans hBT.size (Nat.le_refl _)) (by rw [lst_length]; unfold maxLen; omega);rw [lst_length] at hfin;refine ⟨_,rfl,?_,hBT.trans (hbw.mono hBT.size)⟩;unfold embL;rw [← hf.out];exact hfin
end
end Go.Proofs.YtjdoneanohhkmaaGreat
