/- Plain: interleaved rows, product rows, bursts. No Go here. Rows of combined codes, as lists. A row appended to rows of the call's own; combine.Sum, Plotkin, Juxtapose: errors and codes. Plain: least weights of direct sums, of words (u, u + v), of products and of interleaved codes. No Go here. Plain: the words of a code by their index; the least weight as the reference finds it; ranks of combined rows. No Go here. Distance of any code: its number, and what it says if it is at least 1; results as codes without an error. Numbers of words and distances of results of chapter 14. CombineDistances: what the functions answer, with no program in sight. ref12.Has of any valid code and word: whether the word is in the rows' span. Plain: the words orthogonal to the rows of a reduced matrix (the dual space). No Go here. Plain: sums and products of three codes, in both orders of the brackets; transposed words. No Go here. Plain law of layer 19: words over a subfield, their images, coordinates and traces. No Go here. -/
import Derived.Deep.RegionHeld3
import Derived.IntWalk
import Derived.Laws.MakeOwn
import Derived.Outline
import Derived.Test.YtjdoneanohhkmaaGreatZrU07RLA
import Derived.Test.YtjdoneanohhkmaaGreatZrU07RDivP
import Derived.Test.YtjdoneanohhkmaaGreatZrU07RHasC
import Derived.Test.YtjdoneanohhkmaaGreatZrU07RCodC
import Derived.Test.YtjdoneanohhkmaaGreatZrU07REnc
import Derived.Test.YtjdoneanohhkmaaGreatZrU07RBxs
import Derived.Test.YtjdoneanohhkmaaGreatZrU07RNrm
import Derived.Test.YtjdoneanohhkmaaGreatZrU07RPoR
import Derived.Test.YtjdoneanohhkmaaGreatZrU07RGrsU
namespace Cw
section cmb
variable {F : Type} [CField F]
open CField (inv)
def iv (s k : Nat) (u : Nat → F) : Nat → F := fun t => if t % s = k then u (t / s) else 0
theorem divmod_mul {b x y : Nat} (hy : y < b) : (b * x + y) / b = x ∧ (b * x + y) % b = y := by
 constructor
 ·rw [Nat.mul_add_div (by omega),Nat.div_eq_of_lt hy,Nat.add_zero]
 ·rw [Nat.mul_add_mod,Nat.mod_eq_of_lt hy]
end cmb
section burst
variable {F : Type} [CField F] [DecidableEq F]
end burst
end Cw

namespace Go.Proofs.YtjdoneanohhkmaaGreat
section
open Go.RowKit Cw
def joinF {X : Type} (n : Nat) (u v : Nat → X) : Nat → X := fun j => if j < n then u j else v (j - n)
def stackR {X : Type} (K : Nat) (A B : Nat → X) : Nat → X := fun i => if i < K then A i else B (i - K)
theorem stackR_lo {X : Type} {K i : Nat} (A B : Nat → X) (h : i < K) : stackR K A B i = A i := if_pos h
theorem stackR_hi {X : Type} {K i : Nat} (A B : Nat → X) : stackR K A B (K + i) = B i := by unfold stackR; rw [if_neg (by omega),Nat.add_sub_cancel_left]
def sumR {F : Type} [CField F] (K n : Nat) (A B : Nat → Nat → F) : Nat → Nat → F := stackR K (fun i => joinF n (A i) fun _ => 0) (fun i => joinF n (fun _ => 0) (B i))
def ploR {F : Type} [CField F] (K n : Nat) (A B : Nat → Nat → F) : Nat → Nat → F := stackR K (fun i => joinF n (A i) (A i)) (fun i => joinF n (fun _ => 0) (B i))
end
section
open Go.RowKit Cw
attribute [local go_sem] Oper.semAt_some

theorem OwnM.lt0 {w : World} {B n : Nat} {v : Value} {rows : Nat → List Int} (h : OwnM w B v n rows) : ∀ k,v.ownBlock = some k → k < w.heap.size := fun k e => by
 obtain ⟨hs,-,e2,-⟩ := h;exact (World.ownsRow.lt e2 k e).2
theorem wpList_appRow {w : World} {ops : Array Oper} {rest : List Oper} {o : Oper} {a : Act} {Q : Exit → Act → World → Prop} (hgd : o.guard = none) (s x : Operand)
  (ho : o.op = .call { callee := .builtin .append,args := #[s,x],argTypes := #[25,25] })
  (B : Nat) (v : Value) (n : Nat) (rows : Nat → List Int) (hown : OwnM w B v n rows) (Ak : Option Addr) (L ck : Nat) (hr : Rd w w.heap.size Ak (rows n)) (hL : (rows n).length = L) (hl : L ≤ ck) (hc : ck ≤ maxLen)
  (W0 : Nat) (hv0 : ∀ k,v.ownBlock = some k → k < W0) (hd : ∀ a,Ak = some a → W0 ≤ a.block) (hBW : B ≤ W0)
  (hs : a.eval s = v) {H : Nat} (hx : a.eval x = .slice (some ⟨H,0,none⟩) 1 1) (hH : w.heap.size = H) (hn : n ≤ 1000000) (hB : B ≤ w.heap.size)
  (h : ∀ v' w',OwnM w' B v' (n + 1) rows → Below B w w' → wpList Tryz.prog ops Q rest (a.put o.dst v') w') :
  wpList Tryz.prog ops Q (o :: rest) a (w.alloc (.cells #[.slice Ak L ck] 22)) := by
 obtain ⟨hss,e1,e2,e3⟩ := hown;refine wpList_app1V hgd s x ho B v hss _ rfl e2 hs hx hH (by omega) hB fun v' w' ho' hb hg hv => ?_
 refine h v' w' (OwnM.snoc e1 e3 hr (by omega) hc (fun _ a e => ⟨fun e4 => ?_,Nat.le_trans hBW (hd a e)⟩) (by rw [hL]; exact ho') hg hv) hb;have h1 := hd a e;have h2 := hv0 _ e4;omega
theorem OwnM.rdm {w : World} {B n : Nat} {v : Value} {rows : Nat → List Int} (h : OwnM w B v n rows) : ∃ A c,v = .slice A n c ∧ RdM w w.heap.size A n rows := by
 obtain ⟨A,c,rfl⟩ := h.size;refine ⟨A,c,rfl,?_⟩;by_cases h0 : 0 < n
 ·obtain ⟨g,c',e,hg',-,-,hmb⟩ := h.mb h0;have e2 : A = some ⟨g,0,none⟩ := by injection e
  rw [e2]; exact (hmb.rdmU hg').rdm
 ·obtain rfl : n = 0 := by omega
  exact RdM.zero
end
end Go.Proofs.YtjdoneanohhkmaaGreat

namespace Cw
open Go.Proofs.YtjdoneanohhkmaaGreat (joinF)
open Go.Proofs.YtjdoneanohhkmaaGreat (stackR sumR ploR)
section pl
variable {F : Type} [CField F]
end pl
section wt
variable {F : Type} [CField F] [DecidableEq F]
end wt
end Cw

namespace Go.Proofs.YtjdoneanohhkmaaGreat
section
open Go.RowKit Cw

section rank
variable {F : Type} [CField F]
theorem RR.congr {m r : Nat} {p : Nat → Nat} {A B : Nat → Nat → F} (h : RR m r p A) (e : ∀ i,i < r → ∀ j,j < m → A i j = B i j) : RR m r p B where
 lt := h.lt
 mono := h.mono
 one := fun i hi => by rw [← e i hi _ (h.lt i hi)]; exact h.one i hi
 zero := fun i j hi hj hne => by rw [← e i hi _ (h.lt j hj)]; exact h.zero i j hi hj hne
 low := fun i hi j hj => by rw [← e i hi j (Nat.lt_trans hj (h.lt i hi))]; exact h.low i hi j hj
end rank

theorem canl_RR {F : FD} {n m : Nat} {M : Nat → Nat → R F.toDesc} (h : Canl F n m M) : ∃ p,RR m n p M := by
 have h1 := elS_RR n m M;have hk : (elS n M m).2.length = n := h.1;rw [hk] at h1;exact ⟨_,RR.congr h1 fun i hi j hj => rowL_inj (D := F.toDesc) (h.2 i hi) hj⟩
section words
variable {F : FD} {n m : Nat} {M : Nat → Nat → R F.toDesc}
end words
end
section
open Go.RowKit Cw

theorem vc_res (F : FD) (hgood : Good F.p F.m (modL F.toDesc)) (n m : Nat) (M : Nat → Nat → R F.toDesc) (h1 : 1 ≤ m) (h2 : m ≤ 64) : VC F.p F.m m (modL F.toDesc) (rkS F n m M) (rowsL F.toDesc m (elS n M m).1) F m (elS n M m).1 :=
 ⟨rfl,rfl,rfl,hgood,rfl,h1,h2,fun _ _ => rfl,canl_elS F n m M⟩
theorem rk_full {F : FD} {n m : Nat} {M : Nat → Nat → R F.toDesc} (h : Indep n m M) : rkS F n m M = n := elS_rank h
end
section
open Go.RowKit Cw

section res
variable {F : FD} {n m : Nat} {M : Nat → Nat → R F.toDesc}
end res
end
section
open Go.RowKit Cw

end
section
open Go.RowKit Cw

noncomputable def spB {D : Type} [CField D] (n m : Nat) (M : Nat → Nat → D) (u : Nat → D) : Bool := @decide (Span n m M u) (Classical.propDecidable _)
theorem spB_iff {D : Type} [CField D] {n m : Nat} {M : Nat → Nat → D} {u : Nat → D} : spB n m M u = true ↔ Span n m M u :=
 @decide_eq_true_iff _ (Classical.propDecidable _)
theorem fnz_RR {F : FD} {n m : Nat} {M : Nat → Nat → R F.toDesc} {p : Nat → Nat} (h : RR m n p M) {i : Nat} (hi : i < n) : fnz (rowsL F.toDesc m M i) = p i := by
 have hlt := h.lt i hi;refine fnz_eq _ _ (by rw [rowsL,rowL_length]; omega) (fun j hj => ?_) (.inr ?_)
 ·rw [rowsL,rowL_get _ _ (by omega),h.low i hi j hj]; exact ci_zero
 ·rw [rowsL,rowL_get _ _ hlt,h.one i hi];intro e;exact one_ne (ci_eq_zero.1 e)
theorem rest_span {F : FD} {n m : Nat} {M : Nat → Nat → R F.toDesc} {p : Nat → Nat} (h : RR m n p M) (u : Nat → R F.toDesc) : all0 (rowL F.toDesc m (restF n (fun i => fnz (rowsL F.toDesc m M i)) M u)) = spB n m M u := by
 rw [Bool.eq_iff_iff,spB_iff];have hall : all0 (rowL F.toDesc m (restF n (fun i => fnz (rowsL F.toDesc m M i)) M u)) = true ↔ ∀ j,j < m → restF n (fun i => fnz (rowsL F.toDesc m M i)) M u j = 0 := by
  unfold all0;rw [decide_eq_true_iff];constructor
  ·intro h j hj;exact ci_eq_zero.1 (h _ (List.mem_map.2 ⟨j,List.mem_range.2 hj,rfl⟩))
  ·intro h x hx;obtain ⟨j,hj,rfl⟩ := List.mem_map.1 hx;exact ci_eq_zero.2 (h j (List.mem_range.1 hj))
 rw [hall];constructor
 ·intro h;refine ⟨fun i => u (fnz (rowsL F.toDesc m M i)),fun j hj => ?_⟩;have h1 := h j hj;unfold restF at h1;dsimp only at h1 ⊢;rw [rsum_congr fun i _ => neg_mul _ _,rsum_neg] at h1;exact sub_eq_zero h1
 ·intro hs j hj;obtain ⟨c,hc⟩ := hs;unfold restF;dsimp only;rw [rsum_congr (g := fun i => -(c i * M i j)) fun i hi => by
   rw [fnz_RR h hi,neg_mul]
   congr 2
   exact h.coef hc hi,rsum_neg,← hc j hj,add_neg]
theorem Has12_vc {P M N : Int} {ml : List Int} {n : Nat} {rows : Nat → List Int} {F : FD} {m : Nat} {B : Nat → Nat → R F.toDesc} (hv : VC P M N ml n rows F m B) (u : Nat → R F.toDesc) (A Ar A1 : Option Addr) (c cr c1 : Nat) (w : World) (hr : Rd w w.heap.size A ml) (hrm : RdM w w.heap.size Ar n rows) (hr1 : Rd w w.heap.size A1 (rowL F.toDesc m u)) :
  Calls Tryz.prog 19 #[.agg #[.int .i64 P,.int .i64 M,.slice A ml.length c,.int .i64 N,.slice Ar n cr],.slice A1 m c1] w fun e w' => e = .returned (.tuple #[.bool (spB n m B u),.int .i64 0]) ∧ Below w.heap.size w w' := by
 have eP := hv.hP; have eM := hv.hM; have eL := hv.hl; have eN := hv.hN;have h1 := hv.le; have h2 := hv.m64; have h3 := hv.m1;have hrm2 := hrm.congr hv.hr;have hgood := hv.good;have hcan := hv.can;obtain ⟨p,hRR⟩ := canl_RR hcan;clear hv hrm;subst eP eM eL eN;rw [modL_length,← rest_span hRR u];exact Has12_yes F hgood n m B hcan A Ar c cr u A1 c1 w hr hrm2 (by omega) h3 h2 hr1 (fun i hi => by rw [fnz_RR hRR hi]; exact hRR.lt i hi)
end
end Go.Proofs.YtjdoneanohhkmaaGreat

namespace Cw
section
variable {F : Type} [CField F]
def Orth (K m : Nat) (A : Nat → Nat → F) (u : Nat → F) : Prop := ∀ i,i < K → rsum m (fun j => A i j * u j) = 0
theorem Orth.span {K m : Nat} {A : Nat → Nat → F} {u v : Nat → F} (h : Orth K m A u) (hv : Span K m A v) : rsum m (fun j => v j * u j) = 0 := by
 obtain ⟨c,hc⟩ := hv;rw [rsum_congr (g := fun j => rsum K fun i => c i * (A i j * u j)) fun j hj => by
  rw [hc j hj,← rsum_mul_right]; exact rsum_congr fun i _ => mul_a _ _ _,rsum_swap]
 exact rsum_eq_zero fun i hi => by rw [rsum_mul_left,h i hi,mul_zero]
theorem Orth.same {K K' m : Nat} {A B : Nat → Nat → F} (hs : SameSpan K K' m A B) (u : Nat → F) : Orth K m A u ↔ Orth K' m B u :=
 ⟨fun h i hi => h.span (hs.2 i hi),fun h i hi => h.span (hs.1 i hi)⟩
def npv (p : Nat → Nat) (r m : Nat) : List Nat := (List.range m).filter fun c => !decide (∃ i,i < r ∧ p i = c)
theorem npv_succ (p : Nat → Nat) (r m : Nat) : npv p r (m + 1) = npv p r m ++ if ∃ i,i < r ∧ p i = m then [] else [m] := by
 unfold npv;rw [List.range_succ,List.filter_append]
 congr 1
 by_cases h : ∃ i,i < r ∧ p i = m
 ·rw [if_pos h]; simp [h]
 ·rw [if_neg h]; simp [h]
theorem npv_mem {p : Nat → Nat} {r m c : Nat} : c ∈ npv p r m ↔ c < m ∧ ∀ i,i < r → p i ≠ c := by
 unfold npv;rw [List.mem_filter,List.mem_range];simp
theorem rsum_npv {p : Nat → Nat} {r : Nat} (hinj : ∀ i j,i < r → j < r → p i = p j → i = j) (f : Nat → F) :
  ∀ m,rsum m f = rsum r (fun i => if p i < m then f (p i) else 0) + rsum (npv p r m).length (fun t => f ((npv p r m)[t]?.getD 0))
 | 0 => by
  rw [rsum_eq_zero (n := r) fun i _ => if_neg (Nat.not_lt_zero _)]
  show (0 : F) = 0 + 0
  rw [zero_add]
 | m + 1 => by
  rw [rsum_succ,rsum_npv hinj f m,npv_succ];by_cases h : ∃ i,i < r ∧ p i = m
  ·rw [if_pos h,List.append_nil];obtain ⟨k,hk,e⟩ := h;have e1 : rsum r (fun i => if p i < m + 1 then f (p i) else 0) = rsum r (fun i => if p i < m then f (p i) else 0) + f m := by
    have e2 : rsum r (fun i => if i = k then f m else 0) = f m := by rw [rsum_single hk fun i _ hne => if_neg hne,if_pos rfl]
    rw [← e2,← rsum_add];refine rsum_congr fun i hi => ?_
    by_cases g : i = k
    ·subst g; rw [if_pos (by omega),if_neg (by omega),if_pos rfl,e,zero_add]
    ·have hne : p i ≠ m := fun e3 => g (hinj i k hi hk (e3.trans e.symm))
     rw [if_neg g,add_zero];by_cases g2 : p i < m
     ·rw [if_pos g2,if_pos (by omega)]
     ·rw [if_neg g2,if_neg (by omega)]
   rw [e1]; ac_rfl
  ·rw [if_neg h,List.length_append,List.length_singleton,rsum_succ];have e1 : rsum r (fun i => if p i < m + 1 then f (p i) else 0) = rsum r (fun i => if p i < m then f (p i) else 0) := rsum_congr fun i hi => by
    have hne : p i ≠ m := fun e => h ⟨i,hi,e⟩
    by_cases g2 : p i < m
    ·rw [if_pos g2,if_pos (by omega)]
    ·rw [if_neg g2,if_neg (by omega)]
   have e2 : rsum (npv p r m).length (fun t => f ((npv p r m ++ [m])[t]?.getD 0)) = rsum (npv p r m).length (fun t => f ((npv p r m)[t]?.getD 0)) := rsum_congr fun t ht => by rw [List.getElem?_append_left ht]
   have e3 : f ((npv p r m ++ [m])[(npv p r m).length]?.getD 0) = f m := by rw [List.getElem?_append_right (Nat.le_refl _),Nat.sub_self]; rfl
   rw [e1,e2,e3]; ac_rfl
theorem npv_get {p : Nat → Nat} {r m t : Nat} (ht : t < (npv p r m).length) : (npv p r m)[t]?.getD 0 < m ∧ ∀ i,i < r → p i ≠ (npv p r m)[t]?.getD 0 := by
 have e : (npv p r m)[t]?.getD 0 ∈ npv p r m := by rw [List.getElem?_eq_getElem ht]; exact List.getElem_mem ht
 exact npv_mem.1 e
def nulR (r : Nat) (p : Nat → Nat) (A : Nat → Nat → F) (c : Nat) : Nat → F := fun j => (if j = c then 1 else 0) - rsum r fun i => if j = p i then A i c else 0
theorem nulR_piv {m r : Nat} {p : Nat → Nat} {A : Nat → Nat → F} (h : RR m r p A) {c i : Nat} (hi : i < r) (hc : p i ≠ c) : nulR r p A c (p i) = - A i c := by
 unfold nulR;rw [if_neg hc,rsum_single hi fun k hk hne => if_neg fun e => ?_,if_pos rfl]
 ·rw [zero_sub]
 ·have h1 := h.one i hi;rw [e,h.zero i k hi hk hne.symm] at h1;exact one_ne h1.symm
theorem nulR_oth {r : Nat} {p : Nat → Nat} (A : Nat → Nat → F) {c j : Nat} (hj : ∀ i,i < r → p i ≠ j) : nulR r p A c j = if j = c then 1 else 0 := by
 unfold nulR;rw [rsum_eq_zero fun i hi => if_neg fun e => hj i hi e.symm,sub_zero]
theorem RR.inj {m r : Nat} {p : Nat → Nat} {A : Nat → Nat → F} (h : RR m r p A) : ∀ i j,i < r → j < r → p i = p j → i = j := fun i j hi hj e => by
 rcases Nat.lt_trichotomy i j with g | g | g
 ·have := h.mono i j g hj; omega
 ·exact g
 ·have := h.mono j i g hi; omega
theorem npv_nodup (p : Nat → Nat) (r m : Nat) : (npv p r m).Nodup := List.Pairwise.filter _ List.nodup_range
theorem npv_inj {p : Nat → Nat} {r m s t : Nat} (hs : s < (npv p r m).length) (ht : t < (npv p r m).length) (e : (npv p r m)[s]?.getD 0 = (npv p r m)[t]?.getD 0) : s = t := by
 rw [List.getElem?_eq_getElem hs,List.getElem?_eq_getElem ht] at e;have hn := List.pairwise_iff_getElem.1 (npv_nodup p r m);have e' : (npv p r m)[s] = (npv p r m)[t] := e;rcases Nat.lt_trichotomy s t with g | g | g
 ·exact absurd e' (hn s t hs ht g)
 ·exact g
 ·exact absurd e'.symm (hn t s ht hs g)
def nulM (r m : Nat) (p : Nat → Nat) (A : Nat → Nat → F) : Nat → Nat → F := fun t => nulR r p A ((npv p r m)[t]?.getD 0)
theorem eq_neg_of_add {a b : F} (h : a + b = 0) : a = -b := by
 have h2 : a + b + -b = -b := by rw [h,zero_add]
 rwa [add_a,add_neg,add_zero] at h2
theorem nul_iff {m r : Nat} {p : Nat → Nat} {A : Nat → Nat → F} (h : RR m r p A) (u : Nat → F) : Span (npv p r m).length m (nulM r m p A) u ↔ Orth r m A u := by
 have hsum : ∀ f : Nat → F,rsum m f = rsum r (fun i => f (p i)) + rsum (npv p r m).length (fun t => f ((npv p r m)[t]?.getD 0)) := fun f => by
  rw [rsum_npv h.inj f m]
  congr 1
  exact rsum_congr fun i hi => if_pos (h.lt i hi)
 constructor
 ·intro hu i hi;have hrow : ∀ t,t < (npv p r m).length → rsum m (fun j => A i j * nulM r m p A t j) = 0 := fun t ht => by
   obtain ⟨hc,hn⟩ := npv_get ht;rw [hsum,rsum_single (k := i) hi fun k hk hne => by rw [h.zero i k hi hk hne.symm,zero_mul],rsum_single (k := t) ht fun s hs hne => ?_]
   ·unfold nulM;rw [nulR_piv h hi (hn i hi),nulR_oth A hn,if_pos rfl,h.one i hi,one_mul,mul_one,neg_add]
   ·unfold nulM;rw [nulR_oth A (npv_get hs).2,if_neg (fun e => hne (npv_inj hs ht e)),mul_zero]
  obtain ⟨c,hc⟩ := hu;rw [rsum_congr (g := fun j => rsum (npv p r m).length fun t => c t * (A i j * nulM r m p A t j)) fun j hj => by
   rw [hc j hj,← rsum_mul_left]; exact rsum_congr fun t _ => by ac_rfl,rsum_swap]
  exact rsum_eq_zero fun t ht => by rw [rsum_mul_left,hrow t ht,mul_zero]
 ·intro hu;refine ⟨fun t => u ((npv p r m)[t]?.getD 0),fun j hj => ?_⟩;by_cases g : ∃ i,i < r ∧ p i = j
  ·obtain ⟨i,hi,rfl⟩ := g;have h1 := hu i hi;rw [hsum,rsum_single (k := i) hi fun k hk hne => by rw [h.zero i k hi hk hne.symm,zero_mul],h.one i hi,one_mul] at h1;rw [rsum_congr (g := fun t => -(A i ((npv p r m)[t]?.getD 0) * u ((npv p r m)[t]?.getD 0))) fun t ht => by
    unfold nulM; rw [nulR_piv h hi ((npv_get ht).2 i hi),mul_neg,mul_c],rsum_neg]
   exact eq_neg_of_add h1
  ·have hn : ∀ i,i < r → p i ≠ j := fun i hi e => g ⟨i,hi,e⟩
   have hm : j ∈ npv p r m := npv_mem.2 ⟨hj,hn⟩;obtain ⟨t,ht,e⟩ := List.getElem_of_mem hm;have e' : (npv p r m)[t]?.getD 0 = j := by rw [List.getElem?_eq_getElem ht]; exact e
   rw [rsum_single (k := t) ht fun s hs hne => ?_]
   ·unfold nulM;dsimp only;rw [nulR_oth A hn,e',if_pos rfl,mul_one]
   ·unfold nulM;rw [nulR_oth A hn,if_neg (fun e2 => hne (npv_inj hs ht (e2.symm.trans e'.symm))),mul_zero]
theorem nul_indep {m r : Nat} {p : Nat → Nat} {A : Nat → Nat → F} : Indep (npv p r m).length m (nulM r m p A) := fun c hc t ht => by
 obtain ⟨hlt,hn⟩ := npv_get ht;have h1 := hc _ hlt;rw [rsum_single (k := t) ht fun s hs hne => by unfold nulM; rw [nulR_oth A hn,if_neg (fun e => hne (npv_inj hs ht e.symm)),mul_zero]] at h1;unfold nulM at h1;rw [nulR_oth A hn,if_pos rfl,mul_one] at h1;exact h1
end
end Cw
namespace Cw
theorem npv_pre {p : Nat → Nat} {r c : Nat} : ∀ {m : Nat},c ≤ m → ∃ l,npv p r m = npv p r c ++ l
 | 0,h => ⟨[],by rw [show c = 0 by omega,List.append_nil]⟩
 | m + 1,h => by
  by_cases e : c = m + 1
  ·exact ⟨[],by rw [e,List.append_nil]⟩
  ·obtain ⟨l,hl⟩ := npv_pre (p := p) (r := r) (m := m) (show c ≤ m by omega);exact ⟨l ++ _,by rw [npv_succ,hl,List.append_assoc]⟩
theorem npv_at {p : Nat → Nat} {r c m : Nat} (hc : c < m) (hn : ¬ ∃ i,i < r ∧ p i = c) : (npv p r m)[(npv p r c).length]?.getD 0 = c ∧ (npv p r (c + 1)).length = (npv p r c).length + 1 := by
 have e1 : npv p r (c + 1) = npv p r c ++ [c] := by rw [npv_succ,if_neg hn]
 obtain ⟨l,hl⟩ := npv_pre (p := p) (r := r) (show c + 1 ≤ m from hc);refine ⟨?_,by rw [e1,List.length_append,List.length_singleton]⟩;rw [hl,e1,List.append_assoc,List.getElem?_append_right (Nat.le_refl _),Nat.sub_self];rfl
theorem npv_skip {p : Nat → Nat} {r c : Nat} (hn : ∃ i,i < r ∧ p i = c) : npv p r (c + 1) = npv p r c := by
 rw [npv_succ,if_pos hn,List.append_nil]
def lead (p : Nat → Nat) : Nat → Nat → Int
 | 0,_ => -1
 | k + 1,c => if p k = c then (k : Int) else lead p k c
theorem lead_iff (p : Nat → Nat) (c : Nat) : ∀ k,0 ≤ lead p k c ↔ ∃ i,i < k ∧ p i = c
 | 0 => ⟨fun h => absurd h (by unfold lead; decide),fun ⟨_,h,_⟩ => absurd h (Nat.not_lt_zero _)⟩
 | k + 1 => by
  unfold lead;by_cases e : p k = c
  ·rw [if_pos e]; exact ⟨fun _ => ⟨k,by omega,e⟩,fun _ => by omega⟩
  ·rw [if_neg e,lead_iff p c k];exact ⟨fun ⟨i,h1,h2⟩ => ⟨i,by omega,h2⟩,fun ⟨i,h1,h2⟩ => ⟨i,by
    by_cases g : i = k
    ·subst g; exact absurd h2 e
    ·omega,h2⟩⟩
theorem lead_set (p : Nat → Nat) {m k : Nat} : (lst m (lead p k)).set (p k) (k : Int) = lst m (lead p (k + 1)) := by
 apply List.ext_getElem
 ·rw [List.length_set,lst_length,lst_length]
 ·intro i h1 h2;rw [List.getElem_set];simp only [lst,List.getElem_map,List.getElem_range,lead]
section
variable {F : Type} [CField F]
def nulK (p : Nat → Nat) (A : Nat → Nat → F) (c k : Nat) : Nat → F := fun j => (if j = c then 1 else 0) - rsum k fun i => if j = p i then A i c else 0
theorem nulK_step {m r : Nat} {p : Nat → Nat} {A : Nat → Nat → F} (h : RR m r p A) {c k : Nat} (hk : k < r) (hc : p k ≠ c) (j : Nat) : nulK p A c (k + 1) j = if j = p k then - A k c else nulK p A c k j := by
 unfold nulK;rw [rsum_succ];by_cases e : j = p k
 ·rw [if_pos e,if_pos e,if_neg (fun e2 => hc (e.symm.trans e2)),rsum_eq_zero (n := k) fun i hi => if_neg fun e2 => ?_,zero_add,zero_sub];have := h.inj i k (by omega) hk (e2.symm.trans e);omega
 ·rw [if_neg e,if_neg e,add_zero]
end
end Cw

namespace Cw
open Go.Proofs.YtjdoneanohhkmaaGreat (sumR)
section
variable {F : Type} [CField F]
theorem same_iff {n n' m : Nat} {A B : Nat → Nat → F} (h : SameSpan n n' m A B) (u : Nat → F) : Span n m A u ↔ Span n' m B u :=
 ⟨fun g => g.trans h.1,fun g => g.trans h.2⟩
end
end Cw
namespace Go.Proofs.YtjdoneanohhkmaaGreat
section
open Cw
section
variable {F : FD}
end
end
section
open Go.RowKit Cw
open Cw.CField (inv)
section
variable {S F : FD} {r : R F.toDesc}
theorem char_two (hp : S.p = F.p) : nsm S.p (1 : R F.toDesc) = 0 := by rw [hp]; exact char_R
theorem phi_onto (hp : S.p = F.p) (h0 : muV S F r = 0) {y : R F.toDesc} (hy : InSub S.m y) : ∃ u : R S.toDesc,phi S F r u = y := by
 refine Classical.byContradiction fun hno => ?_
 have hc := char_two (S := S) (F := F) hp;have hq : S.q = F.p ^ S.m := by rw [← hp]; rfl
 have h2 := S.toDesc.q2;have hfix : ∀ x : R F.toDesc,InSub S.m x → pw x S.q = x := fun x hx => by
  have h3 : pw x (F.p ^ S.m) = x := hx;rw [← hq] at h3; exact h3
 have ha : ∀ i,InSub S.m (if i < S.q then phi S F r (rel S.toDesc i) else y) := fun i => by
  by_cases e : i < S.q
  ·rw [if_pos e]; exact phi_sub hp hc h0 _
  ·rw [if_neg e]; exact hy
 have key := rsum_roots (n := S.q + 1) (f := fun i => if i = S.q then (1 : R F.toDesc) else if i = 1 then -1 else 0) (a := fun i => if i < S.q then phi S F r (rel S.toDesc i) else y)
  (fun i j hi hj e => by
   by_cases g1 : i < S.q
   ·by_cases g2 : j < S.q
    ·rw [if_pos g1,if_pos g2] at e;have h3 := congrArg rcode (phi_inj hc h0 e);rw [rcode_rel g1,rcode_rel g2] at h3;exact h3
    ·rw [if_pos g1,if_neg g2] at e;exact absurd ⟨_,e⟩ hno
   ·by_cases g2 : j < S.q
    ·rw [if_neg g1,if_pos g2] at e;exact absurd ⟨_,e.symm⟩ hno
    ·omega)
  (fun k _ => by
   have h3 := hfix _ (ha k);generalize (if k < S.q then phi S F r (rel S.toDesc k) else y) = x at h3 ⊢;rw [rsum_succ,if_pos rfl,one_mul,rsum_single (k := 1) (by omega) fun i hi hne => by rw [if_neg (by omega),if_neg hne,zero_mul]];rw [if_neg (by omega),if_pos rfl,pw_one,neg_mul,one_mul,h3,neg_add]) (i := S.q) (by omega)
 rw [if_pos rfl] at key;exact one_ne key
open Classical in
noncomputable def bk (S F : FD) (r : R F.toDesc) (y : R F.toDesc) : R S.toDesc := if h : ∃ u,phi S F r u = y then Classical.choose h else 0
theorem bk_phi (hp : S.p = F.p) (h0 : muV S F r = 0) (u : R S.toDesc) : bk S F r (phi S F r u) = u := by
 have h : ∃ u',phi S F r u' = phi S F r u := ⟨u,rfl⟩;unfold bk;rw [dif_pos h];exact phi_inj (char_two hp) h0 (Classical.choose_spec h)
theorem phi_bk (hp : S.p = F.p) (h0 : muV S F r = 0) {y : R F.toDesc} (hy : InSub S.m y) : phi S F r (bk S F r y) = y := by
 have h := phi_onto hp h0 hy;unfold bk;rw [dif_pos h];exact Classical.choose_spec h
theorem bk_out {y : R F.toDesc} (h : ¬ ∃ u,phi S F r u = y) : bk S F r y = 0 := by unfold bk; rw [dif_neg h]
theorem phi_eq_zero (hp : S.p = F.p) (h0 : muV S F r = 0) {u : R S.toDesc} : phi S F r u = 0 ↔ u = 0 := by
 refine ⟨fun h => phi_inj (char_two hp) h0 (h.trans (phi_zero r).symm),fun h => by rw [h,phi_zero]⟩
theorem tr_sc {d : Nat} (s : Zp F.p) (x : R F.toDesc) : ∀ n,tr d (nsm n x) = nsm n (tr d x)
 | 0 => tr_zero_ d
 | n + 1 => by rw [nsm_succ,tr_add,tr_sc s x n,nsm_succ]
theorem sc_nsm (n : Nat) : sc (D := F.toDesc) (zp F.p n) = nsm n 1 := by
 induction n with
 | zero => rw [zp_zero,sc_zero]; rfl
 | succ n ih =>
  rw [nsm_succ,← ih,← zp_nsm,nsm_succ,sc_add,zp_nsm,sc_one]
theorem tr_all {d n : Nat} (hn : d * n = F.m) (hd1 : 1 ≤ d) {y : R F.toDesc} (h : ∀ k,k < F.m → tr d (pw (Xc F.toDesc) k * y) = 0) : y = 0 := by
 refine Classical.byContradiction fun hy => ?_
 obtain ⟨z,hz⟩ := tr_onto (F := R F.toDesc) (d := d) ⟨n,hn.symm⟩ hd1;apply hz;have e1 : z = rsum F.m (fun k => sc (zp F.p (di (z * inv y) k)) * pw (Xc F.toDesc) k) * y := by
  have e2 : rsum F.m (fun k => sc (zp F.p (di (z * inv y) k)) * pw (Xc F.toDesc) k) = z * inv y := ev_digits (z * inv y);rw [e2,mul_a,inv_mul hy,mul_one]
 rw [e1,← rsum_mul_right,tr_sum_];refine rsum_eq_zero fun k hk => ?_
 rw [sc_nsm,mul_a,← nsm_mul,tr_sc (zp F.p 0),h k hk,nsm_zero_r]
theorem row_tr (hp : S.p = F.p) (h0 : muV S F r = 0) {n N : Nat} (hn : S.m * n = F.m) (hn1 : 1 ≤ n) (h : Nat → R F.toDesc) (u : Nat → R S.toDesc) :
  rsum N (fun j => h j * phi S F r (u j)) = 0 ↔ ∀ k,k < F.m → rsum N (fun j => bk S F r (tr S.m (pw (Xc F.toDesc) k * h j)) * u j) = 0 := by
 have hcc := char_two (S := S) (F := F) hp;have hd : S.m ∣ F.m := ⟨n,hn.symm⟩;have e1 : ∀ k,phi S F r (rsum N fun j => bk S F r (tr S.m (pw (Xc F.toDesc) k * h j)) * u j) = tr S.m (pw (Xc F.toDesc) k * rsum N fun j => h j * phi S F r (u j)) := fun k => by
  rw [phi_rsum hp,← rsum_mul_left,tr_sum_];refine rsum_congr fun j _ => ?_
  rw [phi_mul hcc h0,phi_bk hp h0 (tr_inSub (F := R F.toDesc) hd _),mul_c,← tr_lin (F := R F.toDesc) hn hn1 (phi_sub hp hcc h0 (u j))]
  congr 1
  ac_rfl
 constructor
 ·intro hz k hk;refine (phi_eq_zero hp h0).1 ?_;rw [e1,hz,mul_zero];exact tr_zero_ _
 ·intro hz;refine tr_all hn S.m1 fun k hk => ?_
  rw [← e1,hz k hk,phi_zero]
end
end
end Go.Proofs.YtjdoneanohhkmaaGreat
namespace Cw
section
variable {F : Type} [CField F]
end
end Cw
