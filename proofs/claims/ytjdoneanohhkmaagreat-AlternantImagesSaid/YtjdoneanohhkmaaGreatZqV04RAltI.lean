/- Plain law of layer 18: a word is a codeword just if its first entries' message has it as codeword. No Go here. Plain law of layer 39: the syndromes are 0 just for codewords. Plain: the words of an alternant code are those whose images are codewords of the Reed-Solomon code; its dimension, its weights. No Go here. The reference's rows of a code: Power. The reference's rows of a code. The codewords of the powers are the generator's rows. The reference's code of a description. The reference's Has of layer 18. -/
import Derived.IntWalk
import Derived.Test.YtjdoneanohhkmaaGreatZqV04REmbL
import Derived.Test.YtjdoneanohhkmaaGreatZqV04RLA
import Derived.Test.YtjdoneanohhkmaaGreatZqV04RHasD
import Derived.Test.YtjdoneanohhkmaaGreatZqV04RKnlP
import Derived.Test.YtjdoneanohhkmaaGreatZqV04RPoR
import Derived.Test.YtjdoneanohhkmaaGreatZqV04RGrsH
import Derived.Test.YtjdoneanohhkmaaGreatZqV04RAlvP
import Derived.Test.YtjdoneanohhkmaaGreatZqV04RGopR
import Derived.Test.YtjdoneanohhkmaaGreatZqV04RGrsE2
import Derived.Test.YtjdoneanohhkmaaGreatZqV04RTk
set_option linter.unusedVariables false
set_option linter.unusedSimpArgs false
namespace Go.Proofs.YtjdoneanohhkmaaGreat
open Go.RowKit Cw

noncomputable def inB (F : FD) (kn : Nat) (pts mul word : List Int) : Bool := all0 (rowL F.toDesc pts.length (restF kn (fun i => fnz (rowsL F.toDesc pts.length (elS kn (gM F.toDesc pts mul) pts.length).1 i)) (elS kn (gM F.toDesc pts mul) pts.length).1 (fun j => eli F.toDesc (word[j]?.getD 0))))
section
variable {F : FD} {kn : Nat} {pts mul word : List Int}
theorem fnz_piv (hz : gchkD F.toDesc kn pts mul = 0) {i : Nat} (hi : i < kn) : fnz (rowsL F.toDesc pts.length (elS kn (gM F.toDesc pts mul) pts.length).1 i) = pvF (elS kn (gM F.toDesc pts mul) pts.length).2 i ∧ pvF (elS kn (gM F.toDesc pts mul) pts.length).2 i < pts.length := by
 have hrk := gM_rank hz;rw [Int.toNat_natCast] at hrk;unfold rkS at hrk;have hRR := elS_RR kn pts.length (gM F.toDesc pts mul);rw [hrk] at hRR;have hlt := hRR.lt i hi;refine ⟨fnz_eq _ _ (by rw [rowsL,rowL_length]; omega) (fun j hj => ?_) (.inr ?_),hlt⟩
 ·rw [rowsL,rowL_get _ _ (by omega),hRR.low i hi j hj]; exact ci_zero
 ·rw [rowsL,rowL_get _ _ hlt,hRR.one i hi];intro e;exact one_ne (ci_eq_zero.1 e)
theorem inB_iff (hz : gchkD F.toDesc kn pts mul = 0) : inB F kn pts mul word = true ↔ Span kn pts.length (gM F.toDesc pts mul) (fun j => eli F.toDesc (word[j]?.getD 0)) := by
 have hrk := gM_rank hz;rw [Int.toNat_natCast] at hrk;have hrk' := hrk;unfold rkS at hrk';have hRR := elS_RR kn pts.length (gM F.toDesc pts mul);have hsp := elS_span kn pts.length (gM F.toDesc pts mul);rw [hrk'] at hRR hsp;have hall : inB F kn pts mul word = true ↔ ∀ j,j < pts.length → restF kn (fun i => fnz (rowsL F.toDesc pts.length (elS kn (gM F.toDesc pts mul) pts.length).1 i)) (elS kn (gM F.toDesc pts mul) pts.length).1 (fun j => eli F.toDesc (word[j]?.getD 0)) j = 0 := by
  unfold inB all0;rw [decide_eq_true_iff];constructor
  ·intro h j hj;exact ci_eq_zero.1 (h _ (List.mem_map.2 ⟨j,List.mem_range.2 hj,rfl⟩))
  ·intro h x hx;obtain ⟨j,hj,rfl⟩ := List.mem_map.1 hx;exact ci_eq_zero.2 (h j (List.mem_range.1 hj))
 rw [hall];constructor
 ·intro h;refine Span.trans (B := (elS kn (gM F.toDesc pts mul) pts.length).1) (n' := kn) ⟨fun i => eli F.toDesc (word[fnz (rowsL F.toDesc pts.length (elS kn (gM F.toDesc pts mul) pts.length).1 i)]?.getD 0),fun j hj => ?_⟩ hsp.1;have h1 := h j hj;unfold restF at h1;dsimp only at h1 ⊢;rw [rsum_congr fun i _ => neg_mul _ _,rsum_neg] at h1;exact sub_eq_zero h1
 ·intro h j hj;obtain ⟨c,hc⟩ := h.trans hsp.2;dsimp only at hc;unfold restF;dsimp only;rw [rsum_congr (g := fun i => -(c i * (elS kn (gM F.toDesc pts mul) pts.length).1 i j)) fun i hi => by
   rw [(fnz_piv hz hi).1,neg_mul]
   congr 2
   exact hRR.coef (v := fun j => eli F.toDesc (word[j]?.getD 0)) hc hi,rsum_neg,← hc j hj,add_neg]
end
end Go.Proofs.YtjdoneanohhkmaaGreat

namespace Cw
section lagsyn
variable {F : Type} [CField F]
open CField (inv)
theorem lag_last {n : Nat} (hn : 1 ≤ n) (a : Nat → F) (hinj : ∀ i j,i < n → j < n → a i = a j → i = j) : rsum n (fun i => pw (a i) (n - 1) * inv (lval a i (a i) n)) = 1 := by
 have h := lag_top hn a hinj (fun t => if t = n - 1 then 1 else 0);rw [if_pos rfl] at h;rw [← h];exact rsum_congr fun i _ => by
  rw [rsum_single (k := n - 1) (by omega) (fun t _ ht => by rw [if_neg ht,zero_mul]),if_pos rfl,one_mul]
def lagc (a y : Nat → F) (n t : Nat) : F := rsum n fun i => y i * inv (lval a i (a i) n) * lcf a i n t
theorem lagc_val {n : Nat} (a y : Nat → F) (hinj : ∀ i j,i < n → j < n → a i = a j → i = j) {k : Nat} (hk : k < n) : rsum n (fun t => lagc a y n t * pw (a k) t) = y k := by
 have e1 : ∀ t,t < n → lagc a y n t * pw (a k) t = rsum n fun i => y i * inv (lval a i (a i) n) * (lcf a i n t * pw (a k) t) := fun t _ => by
  unfold lagc;rw [← rsum_mul_right];exact rsum_congr fun i _ => by rw [mul_a]
 rw [rsum_congr e1,rsum_swap];have e2 : ∀ i,i < n → rsum n (fun t => y i * inv (lval a i (a i) n) * (lcf a i n t * pw (a k) t)) = y i * inv (lval a i (a i) n) * lval a i (a k) n := fun i hi => by
  rw [rsum_mul_left,lcf_sum a i (a k) n n (by unfold ldeg; rw [if_pos hi]; omega)]
 rw [rsum_congr e2,rsum_single hk (fun i hi hik => by rw [lval_zero a (fun e => hik e.symm) n hk,mul_zero]),mul_a,inv_mul (lval_ne a hinj hk n (Nat.le_refl _)),mul_one]
theorem syn_coef {n N i : Nat} (a y c : Nat → F) (h : ∀ j,j < n → y j = rsum N fun t => c t * pw (a j) t) :
  rsum n (fun j => inv (lval a j (a j) n) * (pw (a j) i * y j)) = rsum N fun t => c t * rsum n fun j => pw (a j) (i + t) * inv (lval a j (a j) n) := by
 have e1 : ∀ j,j < n → inv (lval a j (a j) n) * (pw (a j) i * y j) = rsum N fun t => c t * (pw (a j) (i + t) * inv (lval a j (a j) n)) := fun j hj => by
  rw [h j hj,← rsum_mul_left,← rsum_mul_left];exact rsum_congr fun t _ => by rw [pw_add]; ac_rfl
 rw [rsum_congr e1,rsum_swap];exact rsum_congr fun t _ => by rw [rsum_mul_left]
theorem syn_iff {n kn : Nat} (hk : kn ≤ n) (hn : 1 ≤ n) (a y : Nat → F) (hinj : ∀ i j,i < n → j < n → a i = a j → i = j) :
  (∀ i,i < n - kn → rsum n (fun j => inv (lval a j (a j) n) * (pw (a j) i * y j)) = 0) ↔ ∃ c : Nat → F,∀ j,j < n → y j = rsum kn fun t => c t * pw (a j) t := by
 constructor
 ·intro h;have hv := fun j (hj : j < n) => (lagc_val a y hinj hj).symm
  have hz : ∀ d,d < n - kn → lagc a y n (n - 1 - d) = 0 := by
   intro d
   induction d using Nat.strongRecOn with
   | _ d ih =>
    intro hd;have h1 := h d hd;rw [syn_coef a y (lagc a y n) hv,rsum_single (k := n - 1 - d) (by omega) (fun t ht hne => ?_),show d + (n - 1 - d) = n - 1 by omega,lag_last hn a hinj,mul_one] at h1
    ·exact h1
    ·by_cases hlt : t < n - 1 - d
     ·rw [lag_pow (by omega) a hinj,mul_zero]
     ·have h2 := ih (n - 1 - t) (by omega) (by omega);rw [show n - 1 - (n - 1 - t) = t by omega] at h2;rw [h2,zero_mul]
  refine ⟨lagc a y n,fun j hj => ?_⟩;rw [hv j hj];refine rsum_tail hk fun t h1 h2 => ?_
  have h3 := hz (n - 1 - t) (by omega);rw [show n - 1 - (n - 1 - t) = t by omega] at h3;rw [h3,zero_mul]
 ·rintro ⟨c,hc⟩ i hi;rw [syn_coef a y c hc];exact rsum_eq_zero fun t ht => by rw [lag_pow (by omega) a hinj,mul_zero]
end lagsyn
end Cw
namespace Go.Proofs.YtjdoneanohhkmaaGreat
section
open Go.RowKit Cw
open Cw.CField (inv)
theorem wgt_zero_iff (l : List Int) : wgt l = 0 ↔ ∀ x ∈ l,x = 0 := by
 constructor
 ·intro h x hx;unfold wgt at h;have h1 := List.length_eq_zero_iff.1 h;have h2 := List.filter_eq_nil_iff.1 h1 x hx
  simpa using h2
 ·exact wgt_zero
theorem syn_has {F : FD} {kn : Nat} {pts mul wl : List Int} (hz : gchkD F.toDesc kn pts mul = 0) :
  (decide (wgt (synL F kn pts mul wl) = 0)) = inB F kn pts mul wl := by
 obtain ⟨hn1,-,hlen,hp,hm,ht,h0,hK0,hKn⟩ := gchkD_zero hz;have hinj := pts_inj hp ht;have hmi : ∀ i,i < pts.length → eli F.toDesc (mul[i]?.getD 0) ≠ 0 := fun i hi => eli_ne (elB_iff.1 hm i (by omega)) fun e => h0 (e ▸ mem_get (by omega))
 have hdu : ∀ i,i < pts.length → eli F.toDesc ((dualL F pts mul)[i]?.getD 0) = inv (eli F.toDesc (mul[i]?.getD 0)) * inv (lval (fun j => eli F.toDesc (pts[j]?.getD 0)) i (eli F.toDesc (pts[i]?.getD 0)) pts.length) := fun i hi => by
  rw [dualL_get hi];unfold dualV;rw [eli_ci,dprod_mul,dprod_lval,inv_mul_d]
 have key := syn_iff (F := R F.toDesc) (n := pts.length) (kn := kn) (by omega) hn1 (fun j => eli F.toDesc (pts[j]?.getD 0)) (fun j => inv (eli F.toDesc (mul[j]?.getD 0)) * eli F.toDesc (wl[j]?.getD 0)) hinj;have hs : ∀ i,rsum pts.length (fun j => eli F.toDesc ((rowsL F.toDesc pts.length (gM F.toDesc pts (dualL F pts mul)) i)[j]?.getD 0) * eli F.toDesc (wl[j]?.getD 0)) = rsum pts.length fun j => inv (lval (fun j => eli F.toDesc (pts[j]?.getD 0)) j (eli F.toDesc (pts[j]?.getD 0)) pts.length) * (pw (eli F.toDesc (pts[j]?.getD 0)) i * (inv (eli F.toDesc (mul[j]?.getD 0)) * eli F.toDesc (wl[j]?.getD 0))) := fun i => by
  refine rsum_congr fun j hj => ?_
  rw [rowsL,rowL_get _ _ hj,eli_ci];unfold gM;rw [hdu j hj]
  ac_rfl
 have h1 : wgt (synL F kn pts mul wl) = 0 ↔ ∀ i,i < pts.length - kn → rsum pts.length (fun j => inv (lval (fun j => eli F.toDesc (pts[j]?.getD 0)) j (eli F.toDesc (pts[j]?.getD 0)) pts.length) * (pw (eli F.toDesc (pts[j]?.getD 0)) i * (inv (eli F.toDesc (mul[j]?.getD 0)) * eli F.toDesc (wl[j]?.getD 0)))) = 0 := by
  rw [wgt_zero_iff];have hL : ((pts.length : Int) - (kn : Int)).toNat = pts.length - kn := by omega
  unfold synL;rw [hL];constructor
  ·intro h i hi;rw [← hs i];exact ci_eq_zero.1 (h _ (List.mem_map.2 ⟨i,List.mem_range.2 hi,rfl⟩))
  ·intro h x hx;obtain ⟨i,hi,rfl⟩ := List.mem_map.1 hx;have h2 := h i (List.mem_range.1 hi);rw [← hs i] at h2;exact ci_eq_zero.2 h2
 have h2 : (∃ c : Nat → R F.toDesc,∀ j,j < pts.length → inv (eli F.toDesc (mul[j]?.getD 0)) * eli F.toDesc (wl[j]?.getD 0) = rsum kn fun t => c t * pw (eli F.toDesc (pts[j]?.getD 0)) t) ↔ Span kn pts.length (gM F.toDesc pts mul) (fun j => eli F.toDesc (wl[j]?.getD 0)) := by
  have hg : ∀ (c : Nat → R F.toDesc) j,rsum kn (fun i => c i * gM F.toDesc pts mul i j) = eli F.toDesc (mul[j]?.getD 0) * rsum kn fun t => c t * pw (eli F.toDesc (pts[j]?.getD 0)) t := fun c j => by
   rw [← rsum_mul_left];exact rsum_congr fun t _ => by unfold gM; ac_rfl
  constructor
  ·rintro ⟨c,hc⟩;refine ⟨c,fun j hj => ?_⟩;rw [hg,← hc j hj,← mul_a,mul_inv (hmi j hj),one_mul]
  ·rintro ⟨c,hc⟩;refine ⟨c,fun j hj => ?_⟩;have h3 := hc j hj;dsimp only at h3;rw [h3,hg,← mul_a,inv_mul (hmi j hj),one_mul]
 have h3 := (h1.trans key).trans (h2.trans (inB_iff hz).symm)
 cases hb : inB F kn pts mul wl with
 | true => exact decide_eq_true (h3.2 hb)
 | false => exact decide_eq_false fun h => by rw [h3.1 h] at hb; cases hb
end
section
open Go.RowKit Cw
open Cw.CField (inv)
section
variable {S F : FD} {r : R F.toDesc} {kn k : Nat} {pts mul wl : List Int} {u : Nat → R S.toDesc}
noncomputable def altH (F : FD) (pts mul : List Int) : Nat → Nat → R F.toDesc := gM F.toDesc pts (dualL F pts mul)
theorem meets_in (hz : gchkD F.toDesc kn pts mul = 0) (hw : ∀ j,j < pts.length → eli F.toDesc (wl[j]?.getD 0) = phi S F r (u j)) : Meets S F r pts.length (pts.length - kn) (altH F pts mul) u ↔ inB F kn pts mul wl = true := by
 rw [← syn_has hz,decide_eq_true_iff,wgt_zero_iff];have hL : ((pts.length : Int) - (kn : Int)).toNat = pts.length - kn := by omega
 have hs : ∀ i,rsum pts.length (fun j => eli F.toDesc ((rowsL F.toDesc pts.length (gM F.toDesc pts (dualL F pts mul)) i)[j]?.getD 0) * eli F.toDesc (wl[j]?.getD 0)) = rsum pts.length fun j => altH F pts mul i j * phi S F r (u j) := fun i => rsum_congr fun j hj => by
  rw [rowsL,rowL_get _ _ hj,eli_ci,hw j hj];rfl
 unfold synL;rw [hL];constructor
 ·intro h x hx;obtain ⟨i,hi,rfl⟩ := List.mem_map.1 hx;rw [hs i,h i (List.mem_range.1 hi),ci_zero]
 ·intro h i hi;rw [← hs i];exact ci_eq_zero.1 (h _ (List.mem_map.2 ⟨i,List.mem_range.2 hi,rfl⟩))
end
end
section
open Go.RowKit Cw
attribute [local go_sem] Oper.semAt_some

set_option maxHeartbeats 1000000 in
theorem Power5_any (i : Nat) (w : World) (hi : i ≤ 1000) :
  Calls Tryz.prog 189 #[.int .i64 i] w (Gives w.heap.size ((List.replicate (i + 1) (0 : Int)).set i 1) w) := by
 have hmk := fun W => mk_ints (i + 1) (by omega) W
 push_cast at hmk
 have hwr : IntKind.i64.wrap ((i : Int) + 1) = (i : Int) + 1 := IntWalk.i64_in _ (by omega);have hi0 : (0 : Int) ≤ (i : Int) := by omega
 have hi1 : (i : Int) < (i : Int) + 1 := by omega
 have hib := IB.newz w (i + 1);have hfz := hib.frozen i;have hcl := hib.cell (i := i) (by simp);have hw2 : (w.alloc (.cells (Array.replicate (i + 1) (Value.int .i64 0)) 3)).setCell ⟨w.heap.size,i,none⟩ (.int .i64 1) = w.alloc (.cells ((Array.replicate (i + 1) (Value.int .i64 0)).setIfInBounds i (.int .i64 1)) 3) := by simp [go_sem]
 have hset := (hib.set_ i 1);have hB := (((Below.refl w.heap.size w).alloc (Nat.le_refl _) (.cells (Array.replicate (i + 1) (Value.int .i64 0)) 3)).setCell (p := ⟨w.heap.size,i,none⟩) (Nat.le_refl _) (.int .i64 1));rw [hw2] at hset hB;replace hw2 := Lib.hid hw2;replace hset := Lib.hid hset;replace hB := Lib.hid hB;go_enter Tryz.func189,Tryz.ntmps189;go_wp2_with (fail);go_ret;exact ⟨w.heap.size,by simp,Nat.le_refl _,hset.out,hB.out⟩
end
section
open Go.RowKit Cw
attribute [local go_sem] Oper.semAt_some

def powL (i : Nat) : List Int := (List.replicate (i + 1) (0 : Int)).set i 1
theorem powL_length (i : Nat) : (powL i).length = i + 1 := by simp [powL]
theorem OwnM.low {w : World} {B B' n : Nat} {v : Value} {rows : Nat → List Int} (h : OwnM w B v n rows) (hB : B' ≤ B) : OwnM w B' v n rows := by
 obtain ⟨hs,h1,h2,h3⟩ := h;refine ⟨hs,h1,⟨h2.1,?_⟩,fun i hi => ?_⟩
 ·rcases h2.2 with hn | ⟨g,cap,cur,e,hb,rest⟩
  ·exact .inl hn
  ·exact .inr ⟨g,cap,cur,e,Nat.le_trans hB hb,rest⟩
 ·obtain ⟨Ai,c,a1,a2,a3,a4,a5⟩ := h3 i hi;exact ⟨Ai,c,a1,a2,a3,a4,fun hn a e => ⟨(a5 hn a e).1,Nat.le_trans hB (a5 hn a e).2⟩⟩
def rowsW (D : Desc) (pts mul : List Int) : Nat → List Int := fun i => wordL D pts mul (powL i)
set_option maxRecDepth 100000 in
set_option maxHeartbeats 2000000 in
theorem Rows18_any (D : Desc) (kn : Nat) (pts mul : List Int) (A A1 A2 : Option Addr) (c c1 c2 : Nat) (w : World) (hr : Rd w w.heap.size A (modL D)) (hr1 : Rd w w.heap.size A1 pts) (hr2 : Rd w w.heap.size A2 mul)
  (hlen : mul.length = pts.length) (hl : pts.length ≤ 64) (hk : kn ≤ 64) :
  Calls Tryz.prog 125 #[.agg #[.int .i64 D.p,.int .i64 D.m,.slice A D.mod.length c,.int .i64 (kn : Int),.slice A1 pts.length c1,.slice A2 mul.length c2]] w fun e w' => ∃ v,e = .returned v ∧ OwnM w' w.heap.size v kn (rowsW D pts mul) ∧ Below w.heap.size w w' := by
 have hP := fun (i : Nat) (W : World) (h : i ≤ 1000) => Lib.hid (show Calls Tryz.prog 189 #[.int .i64 i] W (Gives W.heap.size (powL i) W) from Power5_any i W h)
 have hW := fun i A3 c3 W a b c' d (hi : i ≤ 64) => Lib.hid (Word18_any D kn pts mul (powL i) A A1 A2 A3 c c1 c2 c3 W a b c' d hlen hl (by rw [powL_length]; unfold maxLen; omega))
 obtain ⟨Z,hZ⟩ : ∃ Z,Z = w.alloc (.cells #[.int .i64 D.p,.int .i64 D.m,.slice A D.mod.length c,.int .i64 (kn : Int),.slice A1 pts.length c1,.slice A2 mul.length c2] 72) := ⟨_,rfl⟩;have hB : Below w.heap.size w Z := by rw [hZ]; exact (Below.refl _ _).alloc (Nat.le_refl _) _
 have hZs : w.heap.size < Z.heap.size := by rw [hZ]; simp
 have k0 := Lib.hid (show Z.cell? ⟨w.heap.size,0,none⟩ = some (.int .i64 D.p) ∧ Z.cell? ⟨w.heap.size,1,none⟩ = some (.int .i64 D.m) ∧ Z.cell? ⟨w.heap.size,2,none⟩ = some (.slice A D.mod.length c) ∧ Z.cell? ⟨w.heap.size,3,none⟩ = some (.int .i64 (kn : Int)) ∧ Z.cell? ⟨w.heap.size,4,none⟩ = some (.slice A1 pts.length c1) ∧ Z.cell? ⟨w.heap.size,5,none⟩ = some (.slice A2 mul.length c2) from by rw [hZ]; simp [go_sem]);have hlenH := Lib.hid hlen;replace hZ := Lib.hid hZ;clear hlen;go_enter Tryz.func125,Tryz.ntmps125;go_wp2_with (fail);rw [← hZ.out];go_loopw [4,3] (fun iS v wr => ∃ k : Nat,k ≤ kn ∧ iS = .int .i64 k ∧ OwnM wr Z.heap.size v k (rowsW D pts mul) ∧ Hid (wr.cell? ⟨w.heap.size,0,none⟩ = some (.int .i64 D.p) ∧ wr.cell? ⟨w.heap.size,1,none⟩ = some (.int .i64 D.m) ∧ wr.cell? ⟨w.heap.size,2,none⟩ = some (.slice A D.mod.length c) ∧ wr.cell? ⟨w.heap.size,3,none⟩ = some (.int .i64 (kn : Int)) ∧ wr.cell? ⟨w.heap.size,4,none⟩ = some (.slice A1 pts.length c1) ∧ wr.cell? ⟨w.heap.size,5,none⟩ = some (.slice A2 mul.length c2)) ∧ Below w.heap.size w wr ∧ Z.heap.size ≤ wr.heap.size) (fun iS _ _ => kn - (intOf iS).toNat)
 case atStart => exact ⟨0,by omega,rfl,OwnM.nil _ _ _,k0,hB,Nat.le_refl _⟩
 case round =>
  clear k0 hB hZ;obtain ⟨w3,rfl⟩ : ∃ w3 : World,w3 = wr := ⟨_,rfl⟩;obtain ⟨k,hkk,rfl,hown,kk,hbw,hs3⟩ := hrel;obtain ⟨Av,cv,rfl⟩ := hown.size;obtain ⟨q0,q1,q2,q3,q4,q5⟩ := kk.out;by_cases hlt : k < kn
  ·have hlt3 : w.heap.size < w3.heap.size := by omega
   have hP3 := hP k w3.drew (by omega);unfold Gives at hP3;clear q0 q1 q2 q4 q5;go_wp2_with (fail);refine wp_region_held_drew (S := fun w' => w'.cell? ⟨w.heap.size,0,none⟩ = some (.int .i64 D.p) ∧ w'.cell? ⟨w.heap.size,1,none⟩ = some (.int .i64 D.m) ∧ w'.cell? ⟨w.heap.size,2,none⟩ = some (.slice A D.mod.length c) ∧ w'.cell? ⟨w.heap.size,3,none⟩ = some (.int .i64 (kn : Int)) ∧ w'.cell? ⟨w.heap.size,4,none⟩ = some (.slice A1 pts.length c1) ∧ w'.cell? ⟨w.heap.size,5,none⟩ = some (.slice A2 mul.length c2)) (by kernel_rfl) (by (try dsimp only); exact kk.out) (fun hHeld => ?_);refine tk 0 ?_; try simp only [pS]
   refine tk 1 ?_; try simp only [pS]
   refine tk 2 ?_; try simp only [pS]
   refine rd 3 fun K hK => ?_
   go_simp;go_at_call 189;(with_reducible refine (hP3).out.mono ?_);rintro e w4 ⟨g4,rfl,hg4,hib4,hb4⟩;have kk4 := Lib.hid (keep6 hb4 hlt3 kk.out);have hB4 := hbw.drew.trans (hb4.mono hbw.size);have hs4 : w3.heap.size ≤ w4.heap.size := hb4.size;have hW4 := hW k (some ⟨g4,0,none⟩) (powL k).length w4 ((hr.below hB4).more hB4.size) ((hr1.below hB4).more hB4.size) ((hr2.below hB4).more hB4.size) hib4.rd (by omega);unfold Gives at hW4;go_wp2_with (fail);refine hK.out _ _ (by (try dsimp only); exact kk4.out) (fun hHeld => ?_);clear hK K;try simp only [pS]
   refine rd 4 fun K hK => ?_
   go_simp;go_at_call 188;(with_reducible refine (hW4).out.mono ?_);rintro e w5 ⟨g5,rfl,hg5,hib5,hb5⟩;have kk5 := Lib.hid (keep6 hb5 (Nat.lt_of_lt_of_le hlt3 hs4) kk4.out);have hb35 : Below w3.heap.size w3 w5 := (Below.refl _ w3).drew.trans (hb4.trans (hb5.mono hb4.size));have hown5 := hown.below hb35 (Nat.le_refl _);have hs5 : w4.heap.size ≤ w5.heap.size := hb5.size;obtain ⟨hds,p1,p2,p3⟩ := hown5;have hlt5 : w.heap.size < w5.heap.size := by omega
   go_wp2_with (fail);refine hK.out _ _ (by (try dsimp only); exact kk5.out) (fun hHeld => ?_);clear hK K;try simp only [pS]
   refine rd 5 fun K hK => ?_
   go_simp;refine hK.out _ _ (by (try dsimp only); exact keep6 ((Below.refl w5.heap.size w5).alloc (Nat.le_refl _) _) hlt5 kk5.out) (fun hHeld => ?_);clear hK K;try simp only [pS]
   refine rd 6 fun K hK => ?_
   refine step_app1V rfl (.tmp 11) (.tmp 16) rfl Z.heap.size _ hds _ rfl p2 (by rfl) (by rfl) rfl (by rw [p1]; omega) (by omega) ?_;intro v6 w6 ho6 hb6 hg6 hv6;have kk6 := Lib.hid (keep6 hb6 hZs kk5.out);refine hK.out _ _ (by (try dsimp only); exact kk6.out) (fun hHeld => ?_);clear hK K;try simp only [pS]
   refine tk 7 ?_; try simp only [pS]
   refine wpAnyH_done (by kernel_rfl) ?_ _;have hwl : (rowsW D pts mul k).length ≤ 64 := by unfold rowsW; rw [wordL_length]; exact hl
   have hsn := OwnM.snoc (rows := rowsW D pts mul) p1 p3 (Ak := some ⟨g5,0,none⟩) (ck := (wordL D pts mul (powL k)).length) hib5.rd (Nat.le_refl _) (by unfold maxLen; exact Nat.le_trans hwl (by omega)) (fun _ a e => by cases e; exact ⟨fun e2 => by have h2 := (World.ownsRow.lt (hown.choose_spec.2.1) _ e2).2; have h3 : w4.heap.size ≤ g5 := hg5; have h4 : g5 < w3.heap.size := h2; omega,show Z.heap.size ≤ g5 by have h3 : w4.heap.size ≤ g5 := hg5; omega⟩) ho6 hg6 hv6;have hBf := Lib.hid (hbw.trans ((hb35.mono hbw.size).trans (hb6.mono (by omega))));have hsf : Hid (Z.heap.size ≤ w6.heap.size) := Nat.le_trans (by omega) hb6.size;go_wp2_with (fail);go_roundw
   case rel => exact ⟨k + 1,by omega,by go_num,hsn,kk6,hBf.out,hsf.out⟩
   case measure => simp [intOf]; omega
  ·obtain rfl : k = kn := by omega
   go_wp2_with (fail);go_ret;exact ⟨_,rfl,hown.low (Nat.le_of_lt hZs),hbw⟩
end
section
open Go.RowKit Cw

theorem powL_get (i j : Nat) (h : j < i + 1) : (powL i)[j]?.getD 0 = if j = i then 1 else 0 := by
 unfold powL;rw [List.getElem?_set];by_cases e : i = j
 ·subst e; simp
 ·rw [if_neg e,if_neg (fun h => e h.symm)]; simp [List.getElem?_replicate,h]
theorem pevI_powL (D : Desc) (i : Nat) (u : R D) : pevI D (powL i) u = pw u i := by
 unfold pevI;rw [powL_length,rsum_single (k := i) (Nat.lt_succ_self _) fun j hj hne => ?_]
 ·rw [powL_get i i (Nat.lt_succ_self _),if_pos rfl,eli_one,one_mul]
 ·rw [powL_get i j hj,if_neg hne,eli_zero,zero_mul]
theorem rowsW_eq (D : Desc) (pts mul : List Int) : rowsW D pts mul = rowsL D pts.length (gM D pts mul) := funext fun i => by
 unfold rowsW rowsL rowL wordL gM;simp only [pevI_powL]
end
section
open Go.RowKit Cw
attribute [local go_sem] Oper.semAt_some

theorem OwnM.rd {w : World} {B n : Nat} {v : Value} {rows : Nat → List Int} (h : OwnM w B v n rows) : ∃ A c,v = .slice A n c ∧ RdM w w.heap.size A n rows := by
 obtain ⟨A,c,rfl⟩ := h.size;refine ⟨A,c,rfl,?_⟩;by_cases h0 : 0 < n
 ·obtain ⟨g,c',e,hg',-,-,hmb⟩ := h.mb h0;have e2 : A = some ⟨g,0,none⟩ := by injection e
  rw [e2]; exact (hmb.rdmU hg').rdm
 ·obtain rfl : n = 0 := by omega
  exact RdM.zero
set_option maxRecDepth 100000 in
set_option maxHeartbeats 2000000 in
theorem Code18_any (F : FD) (kn : Nat) (pts mul : List Int) (A A1 A2 : Option Addr) (c c1 c2 : Nat) (w : World) (hr : Rd w w.heap.size A (modL F.toDesc)) (hr1 : Rd w w.heap.size A1 pts) (hr2 : Rd w w.heap.size A2 mul)
  (hlen : mul.length = pts.length) (hl : pts.length ≤ 64) (hk : kn ≤ 64) :
  Calls Tryz.prog 115 #[.agg #[.int .i64 F.p,.int .i64 F.m,.slice A F.mod.length c,.int .i64 (kn : Int),.slice A1 pts.length c1,.slice A2 mul.length c2]] w fun e w' => ∃ A3 c3 Al cl,e = .returned (.agg #[.int .i64 F.p,.int .i64 F.m,.slice A3 F.mod.length c3,.int .i64 pts.length,.slice Al (rkS F kn pts.length (gM F.toDesc pts mul)) cl]) ∧
   Rd w' w'.heap.size A3 (modL F.toDesc) ∧ RdM w' w'.heap.size Al (rkS F kn pts.length (gM F.toDesc pts mul)) (rowsL F.toDesc pts.length (elS kn (gM F.toDesc pts mul) pts.length).1) ∧ Below w.heap.size w w' := by
 obtain ⟨Z,hZ⟩ : ∃ Z,Z = (w.alloc (.cells #[.int .i64 F.p,.int .i64 F.m,.slice A F.mod.length c,.int .i64 (kn : Int),.slice A1 pts.length c1,.slice A2 mul.length c2] 72)).alloc (.cells #[.int .i64 0,.int .i64 0,.slice none 0 0,.int .i64 0,.slice none 0 0] 27) := ⟨_,rfl⟩;have hB : Below w.heap.size w Z := by rw [hZ]; exact ((Below.refl _ _).alloc (Nat.le_refl _) _).alloc (by simp) _
 have hZs : w.heap.size + 1 < Z.heap.size := by rw [hZ]; simp
 have hlt1 : w.heap.size < Z.heap.size := by omega
 have k0 := Lib.hid (show Z.cell? ⟨w.heap.size,0,none⟩ = some (.int .i64 F.p) ∧ Z.cell? ⟨w.heap.size,1,none⟩ = some (.int .i64 F.m) ∧ Z.cell? ⟨w.heap.size,2,none⟩ = some (.slice A F.mod.length c) ∧ Z.cell? ⟨w.heap.size,3,none⟩ = some (.int .i64 (kn : Int)) ∧ Z.cell? ⟨w.heap.size,4,none⟩ = some (.slice A1 pts.length c1) ∧ Z.cell? ⟨w.heap.size,5,none⟩ = some (.slice A2 mul.length c2) from by rw [hZ]; simp [go_sem]);have k1 : Five Z (w.heap.size + 1) (.int .i64 0) (.int .i64 0) (.slice none 0 0) (.int .i64 0) (.slice none 0 0) := by
  rw [hZ]; have := Five.new (w.alloc (.cells #[.int .i64 F.p,.int .i64 F.m,.slice A F.mod.length c,.int .i64 (kn : Int),.slice A1 pts.length c1,.slice A2 mul.length c2] 72)) (.int .i64 0) (.int .i64 0) (.slice none 0 0) (.int .i64 0) (.slice none 0 0) 27; rw [World.size_alloc] at this; exact this
 have hR := Lib.hid (Rows18_any F.toDesc kn pts mul A A1 A2 c c1 c2 Z.drew ((hr.below hB).more hB.size).drew ((hr1.below hB).more hB.size).drew ((hr2.below hB).more hB.size).drew hlen hl hk);have hC := fun Al cl W a b => Lib.hid (Make12_any F kn pts.length (gM F.toDesc pts mul) A Al c cl W a b (by omega) (by omega))
 unfold MakePost at hC;replace hlen := Lib.hid hlen;replace hZ := Lib.hid hZ;go_enter Tryz.func115,Tryz.ntmps115;go_wp2_with (fail);rw [← hZ.out];refine wp_region_held_drew (S := fun w' => w'.cell? ⟨w.heap.size,0,none⟩ = some (.int .i64 F.p) ∧ w'.cell? ⟨w.heap.size,1,none⟩ = some (.int .i64 F.m) ∧ w'.cell? ⟨w.heap.size,2,none⟩ = some (.slice A F.mod.length c) ∧ w'.cell? ⟨w.heap.size,3,none⟩ = some (.int .i64 (kn : Int)) ∧ w'.cell? ⟨w.heap.size,4,none⟩ = some (.slice A1 pts.length c1) ∧ w'.cell? ⟨w.heap.size,5,none⟩ = some (.slice A2 mul.length c2)) (by kernel_rfl) (by (try dsimp only); exact k0.out) (fun hHeld => ?_);refine tk 0 ?_; try simp only [pS]
 refine tk 1 ?_; try simp only [pS]
 refine tk 2 ?_; try simp only [pS]
 refine tk 4 ?_; try simp only [pS]
 refine tk 5 ?_; try simp only [pS]
 refine tk 6 ?_; try simp only [pS]
 refine rd 3 fun K hK => ?_
 go_simp;go_at_call 125;(with_reducible refine (hR).out.mono ?_);rintro e w2 ⟨v2,rfl,hown,hb2⟩;have kk2 := Lib.hid (keep6 hb2 hlt1 k0.out);have hB2 := hB.drew.trans (hb2.mono hB.size);have hs2 : Z.heap.size ≤ w2.heap.size := hb2.size;obtain ⟨Al,cl,rfl,hrw⟩ := hown.rd;rw [rowsW_eq] at hrw;have hC2 := hC Al cl w2 ((hr.below hB2).more hB2.size) hrw;go_wp2_with (fail);refine hK.out _ _ (by (try dsimp only); exact kk2.out) (fun hHeld => ?_);clear hK K;try simp only [pS]
 refine rd 7 fun K hK => ?_
 go_simp;go_at_call 77;(with_reducible refine (hC2).out.mono ?_);rintro e w3 ⟨A3,c3,Al3,cl3,rfl,hr3,hA3,hrm3,hb3⟩;have kk3 := Lib.hid (keep6 hb3 (Nat.lt_of_lt_of_le hlt1 hs2) kk2.out);have hB3 := hB2.trans (hb3.mono hB2.size);obtain ⟨a0,a1,a2,a3,a4,g0,g1,g2,g3,g4⟩ := ((show Five Z.drew _ _ _ _ _ _ from k1).keep hb2 hZs).keep hb3 (show w.heap.size + 1 < w2.heap.size by omega);go_wp2_with (fail);refine hK.out _ _ (by (try dsimp only); exact kk3.out) (fun hHeld => ?_);clear hK K;try simp only [pS]
 refine rd 8 fun K hK => ?_
 go_simp;refine hK.out _ _ (by (try dsimp only); exact keep6 (B := w.heap.size + 1) (set5 _ _ _ _ _) (Nat.lt_succ_self _) kk3.out) (fun hHeld => ?_);clear hK K;try simp only [pS]
 refine wpAnyH_done (by kernel_rfl) ?_ _;have hlt2 : w.heap.size + 1 < w2.heap.size := by omega
 have hrf := Lib.hid (hr3.set5 (b := w.heap.size + 1) (fun b hb => by have := hA3 b hb; omega) (.int .i64 F.p) (.int .i64 F.m) (.slice A3 F.mod.length c3) (.int .i64 pts.length) (.slice Al3 (rkS F kn pts.length (gM F.toDesc pts mul)) cl3));have hru4 : Hid (RdMU (((((w3.setCell ⟨w.heap.size + 1,0,none⟩ (.int .i64 F.p)).setCell ⟨w.heap.size + 1,1,none⟩ (.int .i64 F.m)).setCell ⟨w.heap.size + 1,2,none⟩ (.slice A3 F.mod.length c3)).setCell ⟨w.heap.size + 1,3,none⟩ (.int .i64 pts.length)).setCell ⟨w.heap.size + 1,4,none⟩ (.slice Al3 (rkS F kn pts.length (gM F.toDesc pts mul)) cl3)) w2.heap.size w3.heap.size Al3 (rkS F kn pts.length (gM F.toDesc pts mul)) (rowsL F.toDesc pts.length (elS kn (gM F.toDesc pts mul) pts.length).1)) := hrm3.keepU fun p hp _ => set5_above (b := w.heap.size + 1) (L := w2.heap.size) hlt2 _ _ _ _ _ p hp
 have hBf : Hid (Below w.heap.size w (((((w3.setCell ⟨w.heap.size + 1,0,none⟩ (.int .i64 F.p)).setCell ⟨w.heap.size + 1,1,none⟩ (.int .i64 F.m)).setCell ⟨w.heap.size + 1,2,none⟩ (.slice A3 F.mod.length c3)).setCell ⟨w.heap.size + 1,3,none⟩ (.int .i64 pts.length)).setCell ⟨w.heap.size + 1,4,none⟩ (.slice Al3 (rkS F kn pts.length (gM F.toDesc pts mul)) cl3))) := hB3.trans ((set5 _ _ _ _ _).mono (Nat.le_succ _));have hsz : Hid (w3.heap.size ≤ (((((w3.setCell ⟨w.heap.size + 1,0,none⟩ (.int .i64 F.p)).setCell ⟨w.heap.size + 1,1,none⟩ (.int .i64 F.m)).setCell ⟨w.heap.size + 1,2,none⟩ (.slice A3 F.mod.length c3)).setCell ⟨w.heap.size + 1,3,none⟩ (.int .i64 pts.length)).setCell ⟨w.heap.size + 1,4,none⟩ (.slice Al3 (rkS F kn pts.length (gM F.toDesc pts mul)) cl3)).heap.size) := by unfold Hid; simp [World.setCell]
 replace hr3 := Lib.hid hr3;clear hA3 hrm3 hR hC hC2;go_wp2_with (fail);refine bodyPost_ret (v := .agg #[.int .i64 F.p,.int .i64 F.m,.slice A3 F.mod.length c3,.int .i64 pts.length,.slice Al3 (rkS F kn pts.length (gM F.toDesc pts mul)) cl3]) (by simp [results,Tryz.results115,go_sem,a0,a1,a2,a3,a4]) rfl ⟨A3,c3,Al3,cl3,rfl,hrf.out.more (by simp [World.setCell]),hru4.out.rdm.more hsz.out,hBf.out⟩
end
section
open Go.RowKit Cw
attribute [local go_sem] Oper.semAt_some

set_option maxHeartbeats 2000000 in
theorem Has18_any (F : FD) (hgood : Good F.p F.m (modL F.toDesc)) (kn : Nat) (pts mul word : List Int) (A A1 A2 Aw : Option Addr) (c c1 c2 cw : Nat) (w : World) (hz : gchkD F.toDesc kn pts mul = 0) (hr : Rd w w.heap.size A (modL F.toDesc)) (hr1 : Rd w w.heap.size A1 pts) (hr2 : Rd w w.heap.size A2 mul) (hrw : Rd w w.heap.size Aw word)
  (hw : word.length = pts.length) (hel : elB F.toDesc word = true) :
  Calls Tryz.prog 50 #[.agg #[.int .i64 F.p,.int .i64 F.m,.slice A F.mod.length c,.int .i64 (kn : Int),.slice A1 pts.length c1,.slice A2 mul.length c2],.slice Aw word.length cw] w fun e w' => e = .returned (.bool (inB F kn pts mul word)) ∧ Below w.heap.size w w' := by
 obtain ⟨hp1,hp64,hlen,-,-,-,-,-,hkn⟩ := gchkD_zero hz;have hrk := gM_rank hz;rw [Int.toNat_natCast] at hrk;have hcan := canl_elS F kn pts.length (gM F.toDesc pts mul);rw [hrk] at hcan;have hCo := fun W a b d => Code18_any F kn pts mul A A1 A2 c c1 c2 W a b d hlen hp64 (by omega)
 rw [hrk] at hCo;replace hCo := fun W a b d => Lib.hid (hCo W a b d)
 have hwe := list_rowL hel;rw [hw] at hwe;have hrw2 : Rd w w.heap.size Aw (rowL F.toDesc pts.length fun j => eli F.toDesc (word[j]?.getD 0)) := hwe ▸ hrw;have hH := fun A6 c6 Al6 cl6 W a b d => Lib.hid (Has12_yes F hgood kn pts.length (elS kn (gM F.toDesc pts mul) pts.length).1 hcan A6 Al6 c6 cl6 (fun j => eli F.toDesc (word[j]?.getD 0)) Aw cw W a b (by omega) hp1 hp64 d (fun i hi => by rw [(fnz_piv hz hi).1]; exact (fnz_piv hz hi).2))
 have hB : Below w.heap.size w (w.alloc (.cells #[.int .i64 F.p,.int .i64 F.m,.slice A F.mod.length c,.int .i64 (kn : Int),.slice A1 pts.length c1,.slice A2 mul.length c2] 72)) := (Below.refl _ _).alloc (Nat.le_refl _) _;have k0 := alloc6 w (.int .i64 F.p) (.int .i64 F.m) (.slice A F.mod.length c) (.int .i64 (kn : Int)) (.slice A1 pts.length c1) (.slice A2 mul.length c2) 72;obtain ⟨Z,hZ⟩ : ∃ Z,Z = w.alloc (.cells #[.int .i64 F.p,.int .i64 F.m,.slice A F.mod.length c,.int .i64 (kn : Int),.slice A1 pts.length c1,.slice A2 mul.length c2] 72) := ⟨_,rfl⟩;have hBZ : Below w.heap.size w Z := by rw [hZ]; exact hB
 have hCZ := hCo Z ((hr.below hBZ).more hBZ.size) ((hr1.below hBZ).more hBZ.size) ((hr2.below hBZ).more hBZ.size);replace hZ := Lib.hid hZ;have hin : Hid (inB F kn pts mul word = all0 (rowL F.toDesc pts.length (restF kn (fun i => fnz (rowsL F.toDesc pts.length (elS kn (gM F.toDesc pts mul) pts.length).1 i)) (elS kn (gM F.toDesc pts mul) pts.length).1 (fun j => eli F.toDesc (word[j]?.getD 0))))) := rfl;have hww := Lib.hid hw;clear hwe hcan hrk hz hgood hCo hlen hw;rw [hww.out];go_enter Tryz.func50,Tryz.ntmps50;obtain ⟨q0,q1,q2,q3,q4,q5⟩ := k0;go_wp2_with (fail);rw [← hZ.out];(with_reducible refine hCZ.out.mono ?_);rintro e w1 ⟨A6,c6,Al6,cl6,rfl,hr6,hrm6,hb1⟩;have hB1 := hBZ.trans (hb1.mono hBZ.size);have hH1 := hH A6 c6 Al6 cl6 w1 hr6 hrm6 ((hrw2.below hB1).more hB1.size);go_wp2_with (fail);(with_reducible refine hH1.out.mono ?_);rintro e w2 ⟨rfl,hb2⟩;go_wp2_with (fail);go_ret;exact ⟨by rw [hin.out]; rfl,hB1.trans (hb2.mono hB1.size)⟩

end
end Go.Proofs.YtjdoneanohhkmaaGreat
