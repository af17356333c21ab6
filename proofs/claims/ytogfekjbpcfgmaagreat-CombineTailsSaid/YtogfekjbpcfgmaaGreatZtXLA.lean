/- Plain algebra: Gauss-Jordan elimination as a function. No Go here. Plain algebra: elimination of independent rows finds as many pivots as rows. No Go here. Plain algebra: the reduced rows of a matrix are those of its row space. No Go here. -/
import Derived.Test.YtogfekjbpcfgmaaGreatZtXP1
namespace Cw
section swap
variable {F:Type}
def swapR (A:Nat→Nat→F)(i k:Nat):Nat→Nat→F:=fun t=>if t=i then A k else if t=k then A i else A t
def setR {X:Type} (rows:Nat→X)(i:Nat)(l:X):Nat→X:=fun t=>if t=i then l else rows t
theorem swapR_set (A:Nat→Nat→F)(i k:Nat):setR (setR A i (A k)) k (A i)=swapR A i k:=funext fun t=>by
 unfold setR swapR;by_cases e:t=k
 ·subst e;rw[if_pos rfl];by_cases e2:t=i
  ·subst e2; rw[if_pos rfl]
  ·rw[if_neg e2,if_pos rfl]
 ·rw[if_neg e];by_cases e2:t=i
  ·rw[if_pos e2,if_pos e2]
  ·rw[if_neg e2,if_neg e2,if_neg e]
theorem swapR_self (A:Nat→Nat→F)(i:Nat):swapR A i i=A:=funext fun t=>by
 unfold swapR;by_cases e:t=i
 ·rw[if_pos e,e]
 ·rw[if_neg e,if_neg e]
end swap
section steps
variable {F:Type} [CField F]
open CField (inv)
def scaleR (A:Nat→Nat→F)(i:Nat)(x:F):Nat→Nat→F:=fun t=>if t=i then fun j=>x*A i j else A t
def clearR (A:Nat→Nat→F)(a c i:Nat):Nat→Nat→F:=fun t=>if t<i∧t≠a then fun j=>A t j+-(A t c)*A a j else A t
def stepR (A:Nat→Nat→F)(n a k c:Nat):Nat→Nat→F:=clearR (scaleR (swapR A a k) a (inv (A k c))) a c n
theorem clearR_zero (A:Nat→Nat→F)(a c:Nat):clearR A a c 0=A:=funext fun t=>if_neg (by omega)
theorem clearR_self (A:Nat→Nat→F)(a c i:Nat):clearR A a c i a=A a:=if_neg (by omega)
theorem clearR_at (A:Nat→Nat→F)(a c i:Nat):clearR A a c i i=A i:=if_neg (by omega)
theorem clearR_skip {A:Nat→Nat→F} {a c i:Nat} (h:i=a∨A i c=0):clearR A a c (i+1)=clearR A a c i:=funext fun t=>by
 unfold clearR;by_cases e:t=i
 ·subst e;by_cases e2:t=a
  ·rw[if_neg (by omega),if_neg (by omega)]
  ·have h0:A t c=0:=h.resolve_left e2;rw[if_pos (by omega),if_neg (by omega)];exact funext fun j=>by rw[h0,neg_zero,zero_mul,add_zero]
 ·by_cases e2:t<i∧t≠a
  ·rw[if_pos (by omega),if_pos e2]
  ·rw[if_neg (by omega),if_neg e2]
theorem clearR_set {A:Nat→Nat→F} {a c i:Nat} (h:i≠a):setR (clearR A a c i) i (fun j=>A i j+-(A i c)*A a j)=clearR A a c (i+1):=funext fun t=>by
 unfold setR clearR;by_cases e:t=i
 ·subst e; rw[if_pos rfl,if_pos (by omega)]
 ·rw[if_neg e];by_cases e2:t<i∧t≠a
  ·rw[if_pos e2,if_pos (by omega)]
  ·rw[if_neg e2,if_neg (by omega)]
theorem scaleR_one (A:Nat→Nat→F)(i:Nat):scaleR A i 1=A:=funext fun t=>by
 unfold scaleR;by_cases e:t=i
 ·rw[if_pos e,e]; exact funext fun j=>one_mul _
 ·rw[if_neg e]
end steps
section elim
variable {F:Type} [CField F] [DecidableEq F]
open CField (inv)

def pivG (A:Nat→Nat→F)(c:Nat):Nat→Nat→Nat
 | 0,k=>k
 | d+1,k=>if A k c=0 then pivG A c d (k+1) else k
def pivF (A:Nat→Nat→F)(c n a:Nat):Nat:=pivG A c (n - a) a
theorem pivG_eq (A:Nat→Nat→F)(c:Nat):∀ d a k,a≤k→k≤a+d→(∀ t,a≤t→t<k→A t c=0)→(k=a+d∨A k c≠0)→pivG A c d a=k
 | 0,a,k,h1,h2,_,_=>by show a=k; omega
 | d+1,a,k,h1,h2,h3,h4=>by
  by_cases e:a=k
  ·subst e;rcases h4 with h | h
   ·omega
   ·exact if_neg h
  ·rw[show pivG A c (d+1) a=pivG A c d (a+1) from if_pos (h3 a (Nat.le_refl _) (by omega))];exact pivG_eq A c d (a+1) k (by omega) (by omega) (fun t h5 h6=>h3 t (by omega) h6) (h4.imp (fun h=>by omega) id)
theorem pivF_eq {A:Nat→Nat→F} {c n a k:Nat} (h1:a≤k)(h2:k≤n)(h3:∀ t,a≤t→t<k→A t c=0)(h4:k=n∨A k c≠0):pivF A c n a=k :=
 pivG_eq A c _ _ _ h1 (by omega) h3 (h4.imp (fun h=>by omega) id)
theorem pivG_le (A:Nat→Nat→F)(c:Nat):∀ d a,a≤pivG A c d a∧pivG A c d a≤a+d
 | 0,a=>⟨Nat.le_refl _,Nat.le_refl _⟩
 | d+1,a=>by
  have h:=pivG_le A c d (a+1);by_cases e:A a c=0
  ·rw[show pivG A c (d+1) a=pivG A c d (a+1) from if_pos e]; omega
  ·rw[show pivG A c (d+1) a=a from if_neg e]; omega
def elS (n:Nat)(A:Nat→Nat→F):Nat→(Nat→Nat→F)×List Nat
 | 0=>(A,[])
 | c+1=>if pivF (elS n A c).1 c n (elS n A c).2.length<n then
   (stepR (elS n A c).1 n (elS n A c).2.length (pivF (elS n A c).1 c n (elS n A c).2.length) c,(elS n A c).2 ++ [c]) else elS n A c
theorem elS_no {n:Nat} {A:Nat→Nat→F} {c:Nat} (h:pivF (elS n A c).1 c n (elS n A c).2.length=n):elS n A (c+1)=elS n A c:=if_neg (by rw[h]; exact Nat.lt_irrefl _)
theorem elS_yes {n:Nat} {A:Nat→Nat→F} {c k:Nat} (h:pivF (elS n A c).1 c n (elS n A c).2.length=k)(hk:k<n) :
  elS n A (c+1)=(stepR (elS n A c).1 n (elS n A c).2.length k c,(elS n A c).2 ++ [c]):=by
 subst h;exact if_pos hk
theorem elS_le (n:Nat)(A:Nat→Nat→F):∀ c,(elS n A c).2.length≤n∧(elS n A c).2.length≤c
 | 0=>⟨Nat.zero_le _,Nat.zero_le _⟩
 | c+1=>by
  have ih:=elS_le n A c;have hp:=pivG_le (elS n A c).1 c (n - (elS n A c).2.length) (elS n A c).2.length;by_cases h:pivF (elS n A c).1 c n (elS n A c).2.length<n
  ·rw[elS_yes rfl h];have:pivF (elS n A c).1 c n (elS n A c).2.length=pivG (elS n A c).1 c (n - (elS n A c).2.length) (elS n A c).2.length:=rfl;simp only[List.length_append,List.length_singleton];omega
  ·rw[show elS n A (c+1)=elS n A c from if_neg h]; omega
theorem elS_stop {n:Nat} {A:Nat→Nat→F} {c:Nat} (h:n≤(elS n A c).2.length):∀ d,elS n A (c+d)=elS n A c
 | 0=>rfl
 | d+1=>by
  have ih:=elS_stop h d
  show elS n A (c+d+1)=_
  have hp:¬ pivF (elS n A (c+d)).1 (c+d) n (elS n A (c+d)).2.length<n:=by
   have:=(pivG_le (elS n A (c+d)).1 (c+d) (n - (elS n A (c+d)).2.length) (elS n A (c+d)).2.length).1;rw[ih]at this ⊢;unfold pivF;omega
  rw[show elS n A (c+d+1)=elS n A (c+d) from if_neg hp,ih]
end elim
end Cw

namespace Cw
section sig
variable {F:Type}
theorem swapR_sig (A:Nat→Nat→F)(a k i:Nat):swapR A a k (if i=a then k else if i=k then a else i)=A i:=by
 unfold swapR;by_cases h1:i=a
 ·rw[if_pos h1];by_cases h2:k=a
  ·rw[if_pos h2,h2,h1]
  ·rw[if_neg h2,if_pos rfl,h1]
 ·rw[if_neg h1];by_cases h2:i=k
  ·rw[if_pos h2,if_pos rfl,h2]
  ·rw[if_neg h2,if_neg h1,if_neg h2]
end sig
section rank
variable {F:Type} [CField F]
open CField (inv)
def Indep (n m:Nat)(A:Nat→Nat→F):Prop:=∀ c:Nat→F,(∀ j,j<m→rsum n (fun i=>c i*A i j)=0)→∀ i,i<n→c i=0
theorem rsum_swap2 {n a k:Nat} (ha:a<n)(hk:k<n)(f:Nat→F):rsum n (fun i=>f (if i=a then k else if i=k then a else i))=rsum n f:=by
 by_cases e:a=k
 ·subst e;exact rsum_congr fun i _=>by
   by_cases h:i=a
   ·rw[if_pos h,h]
   ·rw[if_neg h,if_neg h]
 have h:∀ i,i<n→f (if i=a then k else if i=k then a else i)=f i+((if i=a then f k+-(f a) else 0)+(if i=k then f a+-(f k) else 0)):=fun i _=>by
  by_cases h1:i=a
  ·subst h1;rw[if_pos rfl,if_pos rfl,if_neg e,add_zero,add_lc,add_neg,add_zero]
  ·rw[if_neg h1,if_neg h1];by_cases h2:i=k
   ·subst h2;rw[if_pos rfl,if_pos rfl,zero_add,add_lc,add_neg,add_zero]
   ·rw[if_neg h2,if_neg h2,add_zero,add_zero]
 rw[rsum_congr h,rsum_add,rsum_add,rsum_single (k:=a) ha fun i _ hne=>if_neg hne,rsum_single (k:=k) hk fun i _ hne=>if_neg hne,if_pos rfl,if_pos rfl,add_a (f k),←add_a (-(f a)),neg_add,zero_add,add_neg,add_zero]
theorem Indep.swap {n m a k:Nat} {A:Nat→Nat→F} (h:Indep n m A)(ha:a<n)(hk:k<n):Indep n m (swapR A a k):=fun c hc=>by
 have h1:=h (fun i=>c (if i=a then k else if i=k then a else i)) fun j hj=>by
  refine Eq.trans ?_ (hc j hj);refine Eq.trans (rsum_congr fun i _=>?_) (rsum_swap2 ha hk (fun i=>c i*swapR A a k i j));rw[swapR_sig]
 intro i hi;by_cases e1:i=a
 ·have h2:=h1 k hk
  (try dsimp only at h2)
  by_cases e2:k=a
  ·rw[if_pos e2,e2]at h2; rw[e1]; exact h2
  ·rw[if_neg e2,if_pos rfl]at h2; rw[e1]; exact h2
 ·by_cases e2:i=k
  ·have h2:=h1 a ha
   (try dsimp only at h2)
   rw[if_pos rfl]at h2; rw[e2]; exact h2
  ·have h2:=h1 i hi
   (try dsimp only at h2)
   rw[if_neg e1,if_neg e2]at h2; exact h2
theorem Indep.scale {n m a:Nat} {A:Nat→Nat→F} (h:Indep n m A){x:F} (hx:x≠0):Indep n m (scaleR A a x):=fun c hc=>by
 have h1:=h (fun i=>if i=a then c i*x else c i) fun j hj=>by
  rw[←hc j hj];exact rsum_congr fun i _=>by
   unfold scaleR
   (try dsimp only)
   by_cases e:i=a
   ·rw[if_pos e,if_pos e,e,mul_a]
   ·rw[if_neg e,if_neg e]
 intro i hi;have h2:=h1 i hi
 (try dsimp only at h2)
 by_cases e:i=a
 ·rw[if_pos e]at h2;exact (mul_eq_zero h2).resolve_right hx
 ·rw[if_neg e]at h2; exact h2
theorem Indep.clear {n m a k:Nat} {A:Nat→Nat→F} (h:Indep n m A)(ha:a<n):Indep n m (clearR A a k n):=fun c hc=>by
 have h1:=h (fun i=>c i+if i=a then rsum n (fun t=>if t=a then 0 else c t*-(A t k)) else 0) fun j hj=>by
  refine Eq.trans (Eq.trans (rsum_congr (g:=fun i=>c i*A i j+(if i=a then rsum n (fun t=>if t=a then 0 else c t*-(A t k))*A a j else 0)) fun i _=>?_) ?_) (hc j hj);rotate_left
  ·rw[rsum_add,rsum_single (n:=n) (k:=a) (f:=fun i=>if i=a then rsum n (fun t=>if t=a then 0 else c t*-(A t k))*A a j else 0) ha fun i _ hne=>if_neg hne,if_pos rfl,←rsum_mul_right,←rsum_add];exact rsum_congr fun i hi=>by
    unfold clearR;by_cases e:i=a
    ·rw[if_pos e,if_neg (fun h=>h.2 e),zero_mul,add_zero]
    ·rw[if_neg e,if_pos ⟨hi,e⟩,mul_add,mul_a]
  ·by_cases e:i=a
   ·rw[if_pos e,if_pos e,e,add_mul]
   ·rw[if_neg e,if_neg e,add_zero,add_zero]
 have h3:∀ i,i<n→i≠a→c i=0:=fun i hi e=>by
  have h2:=h1 i hi
  (try dsimp only at h2)
  rw[if_neg e,add_zero]at h2; exact h2
 intro i hi;by_cases e:i=a
 ·have h2:=h1 i hi
  (try dsimp only at h2)
  rw[if_pos e,rsum_eq_zero fun t ht=>?_,add_zero]at h2
  ·exact h2
  ·by_cases e2:t=a
   ·exact if_pos e2
   ·rw[if_neg e2,h3 t ht e2,zero_mul]
 ·exact h3 i hi e
end rank
section elim
variable {F:Type} [CField F] [DecidableEq F]
open CField (inv)
theorem pivG_zero (A:Nat→Nat→F)(c:Nat):∀ d a t,a≤t→t<pivG A c d a→A t c=0
 | 0,a,t,h1,h2=>by
  have:pivG A c 0 a=a:=rfl;omega
 | d+1,a,t,h1,h2=>by
  by_cases e:A a c=0
  ·by_cases e2:t=a
   ·rw[e2]; exact e
   ·rw[show pivG A c (d+1) a=pivG A c d (a+1) from if_pos e]at h2;exact pivG_zero A c d (a+1) t (by omega) h2
  ·rw[show pivG A c (d+1) a=a from if_neg e]at h2;omega
theorem pivG_ne (A:Nat→Nat→F)(c:Nat):∀ d a,pivG A c d a<a+d→A (pivG A c d a) c≠0
 | 0,a,h=>by
  have:pivG A c 0 a=a:=rfl;omega
 | d+1,a,h=>by
  by_cases e:A a c=0
  ·rw[show pivG A c (d+1) a=pivG A c d (a+1) from if_pos e]at h ⊢;exact pivG_ne A c d (a+1) (by omega)
  ·rw[show pivG A c (d+1) a=a from if_neg e];exact e
theorem elS_inv {n m:Nat} {A:Nat→Nat→F} (hA:Indep n m A):∀ c,Indep n m (elS n A c).1∧∀ i,(elS n A c).2.length≤i→i<n→∀ j,j<c→(elS n A c).1 i j=0
 | 0=>⟨hA,fun _ _ _ _ hj=>absurd hj (Nat.not_lt_zero _)⟩
 | c+1=>by
  obtain⟨ih1,ih2⟩:=elS_inv hA c;have hle:=(elS_le n A c).1;have hp:=pivG_le (elS n A c).1 c (n - (elS n A c).2.length) (elS n A c).2.length;have hpe:pivF (elS n A c).1 c n (elS n A c).2.length=pivG (elS n A c).1 c (n - (elS n A c).2.length) (elS n A c).2.length:=rfl;by_cases h:pivF (elS n A c).1 c n (elS n A c).2.length<n
  ·have hne:(elS n A c).1 (pivF (elS n A c).1 c n (elS n A c).2.length) c≠0:=pivG_ne _ _ _ _ (by rw[←hpe]; omega);rw[elS_yes rfl h];generalize hk:pivF (elS n A c).1 c n (elS n A c).2.length=k at *;generalize hr:(elS n A c).2.length=r at *;generalize (elS n A c).1=B at *;rw[←hpe]at hp;refine⟨((ih1.swap (by omega) h).scale (inv_ne_zero hne)).clear (by omega),fun i h1 h2 j hj=>?_⟩
   (try dsimp only at h1 ⊢)
   rw[List.length_append,List.length_singleton,hr]at h1;unfold stepR;have hs:∀ t,r≤t→t<n→∀ j,j<c→swapR B r k t j=0:=fun t h3 h4 j hj=>by
    unfold swapR;by_cases e1:t=r
    ·rw[if_pos e1]; exact ih2 k hp.1 h j hj
    ·rw[if_neg e1];by_cases e2:t=k
     ·rw[if_pos e2]; exact ih2 r (Nat.le_refl _) (by omega) j hj
     ·rw[if_neg e2]; exact ih2 t h3 h4 j hj
   have hi:i≠r:=by omega
   show clearR (scaleR (swapR B r k) r (inv (B k c))) r c n i j=0
   unfold clearR;rw[if_pos ⟨h2,hi⟩];have e3:scaleR (swapR B r k) r (inv (B k c)) i=swapR B r k i:=if_neg hi;have e4:scaleR (swapR B r k) r (inv (B k c)) r=fun j=>inv (B k c)*swapR B r k r j:=if_pos rfl
   (try dsimp only)
   rw[e3,e4]
   (try dsimp only)
   by_cases e5:j=c
   ·rw[e5,show swapR B r k r c=B k c from congrFun (if_pos rfl) c,inv_mul hne,mul_one,add_neg]
   ·rw[hs i (by omega) h2 j (by omega),hs r (Nat.le_refl _) (by omega) j (by omega),mul_zero,mul_zero,add_zero]
  ·rw[show elS n A (c+1)=elS n A c from if_neg h];refine⟨ih1,fun i h1 h2 j hj=>?_⟩;by_cases e5:j=c
   ·rw[e5];exact pivG_zero _ _ _ _ _ h1 (by rw[←hpe]; omega)
   ·exact ih2 i h1 h2 j (by omega)
theorem elS_rank {n m:Nat} {A:Nat→Nat→F} (hA:Indep n m A):(elS n A m).2.length=n:=by
 have hle:=(elS_le n A m).1;obtain⟨h1,h2⟩:=elS_inv hA m;refine Classical.byContradiction fun hne=>?_
 have hr:(elS n A m).2.length<n:=by omega
 have h3:=h1 (fun i=>if i=(elS n A m).2.length then 1 else 0) (fun j hj=>by
  rw[rsum_single (k:=(elS n A m).2.length) hr fun i _ hne=>by rw[if_neg hne,zero_mul],if_pos rfl,one_mul];exact h2 _ (Nat.le_refl _) hr j hj) _ hr
 (try dsimp only at h3)
 rw[if_pos rfl]at h3;exact one_ne h3
end elim
end Cw

namespace Cw
section span
variable {F:Type} [CField F]
open CField (inv)
def Span (n m:Nat)(A:Nat→Nat→F)(v:Nat→F):Prop:=∃ c:Nat→F,∀ j,j<m→v j=rsum n (fun i=>c i*A i j)
theorem Span.congr {n m:Nat} {A:Nat→Nat→F} {u v:Nat→F} (h:Span n m A u)(e:∀ j,j<m→v j=u j):Span n m A v:=by
 obtain⟨c,hc⟩:=h;exact⟨c,fun j hj=>(e j hj).trans (hc j hj)⟩
theorem Span.row {n m i:Nat} (A:Nat→Nat→F)(hi:i<n):Span n m A (A i) :=
 ⟨fun t=>if t=i then 1 else 0,fun j _=>by
  dsimp only;rw[rsum_single (k:=i) hi fun t _ hne=>by rw[if_neg hne,zero_mul],if_pos rfl,one_mul]⟩
theorem Span.zero (n m:Nat)(A:Nat→Nat→F):Span n m A (fun _=>0):=⟨fun _=>0,fun j _=>by rw[rsum_eq_zero fun i _=>zero_mul _]⟩
theorem Span.add {n m:Nat} {A:Nat→Nat→F} {u v:Nat→F} (h:Span n m A u)(g:Span n m A v):Span n m A (fun j=>u j+v j):=by
 obtain⟨c,hc⟩:=h;obtain⟨d,hd⟩:=g;exact⟨fun i=>c i+d i,fun j hj=>by dsimp only; rw[hc j hj,hd j hj,←rsum_add]; exact rsum_congr fun i _=>(add_mul _ _ _).symm⟩
theorem Span.smul {n m:Nat} {A:Nat→Nat→F} {u:Nat→F} (h:Span n m A u)(x:F):Span n m A (fun j=>x*u j):=by
 obtain⟨c,hc⟩:=h;exact⟨fun i=>x*c i,fun j hj=>by dsimp only; rw[hc j hj,←rsum_mul_left]; exact rsum_congr fun i _=>(mul_a _ _ _).symm⟩
theorem Span.sum {n m:Nat} {A:Nat→Nat→F} (f:Nat→Nat→F):∀ k,(∀ t,t<k→Span n m A (f t))→Span n m A (fun j=>rsum k (fun t=>f t j))
 | 0,_=>Span.zero n m A
 | k+1,h=>(Span.sum f k fun t ht=>h t (by omega)).add (h k (by omega))
theorem Span.trans {n n' m:Nat} {A B:Nat→Nat→F} {v:Nat→F} (h:Span n' m B v)(hB:∀ t,t<n'→Span n m A (B t)):Span n m A v:=by
 obtain⟨c,hc⟩:=h;exact (Span.sum (fun t j=>c t*B t j) n' fun t ht=>(hB t ht).smul (c t)).congr hc
def SameSpan (n n' m:Nat)(A B:Nat→Nat→F):Prop:=(∀ t,t<n→Span n' m B (A t))∧(∀ t,t<n'→Span n m A (B t))
theorem SameSpan.refl (n m:Nat)(A:Nat→Nat→F):SameSpan n n m A A:=⟨fun _ ht=>Span.row A ht,fun _ ht=>Span.row A ht⟩
theorem SameSpan.symm {n n' m:Nat} {A B:Nat→Nat→F} (h:SameSpan n n' m A B):SameSpan n' n m B A:=⟨h.2,h.1⟩
theorem SameSpan.trans {n n' n'' m:Nat} {A B C:Nat→Nat→F} (h:SameSpan n n' m A B)(g:SameSpan n' n'' m B C):SameSpan n n'' m A C :=
 ⟨fun t ht=>(h.1 t ht).trans g.1,fun t ht=>(g.2 t ht).trans h.2⟩
theorem sameSpan_swap {n m a k:Nat} (A:Nat→Nat→F)(ha:a<n)(hk:k<n):SameSpan n n m (swapR A a k) A:=by
 have h1:∀ t,t<n→∃ s,s<n∧swapR A a k t=A s:=fun t ht=>by
  unfold swapR;by_cases e:t=a
  ·exact⟨k,hk,if_pos e⟩
  ·rw[if_neg e];by_cases e2:t=k
   ·exact⟨a,ha,if_pos e2⟩
   ·exact⟨t,ht,if_neg e2⟩
 have h2:∀ t,t<n→∃ s,s<n∧A t=swapR A a k s:=fun t ht=>by
  unfold swapR;by_cases e:t=a
  ·by_cases e2:k=a
   ·exact⟨a,ha,by rw[if_pos rfl,e,e2]⟩
   ·exact⟨k,hk,by rw[if_neg e2,if_pos rfl,e]⟩
  ·by_cases e2:t=k
   ·exact⟨a,ha,by rw[if_pos rfl,e2]⟩
   ·exact⟨t,ht,by rw[if_neg e,if_neg e2]⟩
 exact⟨fun t ht=>by obtain⟨s,hs,e⟩:=h1 t ht; rw[e]; exact Span.row A hs,fun t ht=>by obtain⟨s,hs,e⟩:=h2 t ht; rw[e]; exact Span.row _ hs⟩
theorem sameSpan_scale {n m a:Nat} (A:Nat→Nat→F){x:F} (hx:x≠0):SameSpan n n m (scaleR A a x) A:=by
 refine⟨fun t ht=>?_,fun t ht=>?_⟩
 ·unfold scaleR;by_cases e:t=a
  ·rw[if_pos e]; exact (Span.row A (e ▸ ht)).smul x
  ·rw[if_neg e]; exact Span.row A ht
 ·have h:=Span.row (m:=m) (scaleR A a x) ht;by_cases e:t=a
  ·refine (h.smul (inv x)).congr fun j _=>?_
   rw[show scaleR A a x t=fun j=>x*A a j from if_pos e]
   (try dsimp only)
   rw[←mul_a,inv_mul hx,one_mul,e]
  ·rw[show scaleR A a x t=A t from if_neg e]at h; exact h
theorem sameSpan_clear {n m a k:Nat} (A:Nat→Nat→F)(ha:a<n):SameSpan n n m (clearR A a k n) A:=by
 have e0:clearR A a k n a=A a:=clearR_self A a k n;refine⟨fun t ht=>?_,fun t ht=>?_⟩
 ·by_cases e:t=a
  ·rw[e,e0]; exact Span.row A ha
  ·rw[show clearR A a k n t=fun j=>A t j+-(A t k)*A a j from if_pos ⟨ht,e⟩];exact (Span.row A ht).add ((Span.row A ha).smul _)
 ·by_cases e:t=a
  ·rw[e,←e0]; exact Span.row _ ha
  ·refine ((Span.row (m:=m) (clearR A a k n) ht).add ((Span.row (m:=m) (clearR A a k n) ha).smul (A t k))).congr fun j _=>?_
   rw[e0,show clearR A a k n t=fun j=>A t j+-(A t k)*A a j from if_pos ⟨ht,e⟩]
   (try dsimp only)
   rw[neg_mul,add_a,neg_add,add_zero]

structure RR (m r:Nat) (p:Nat→Nat) (A:Nat→Nat→F):Prop where
 lt:∀ i,i<r→p i<m
 mono:∀ i j,i<j→j<r→p i<p j
 one:∀ i,i<r→A i (p i)=1
 zero:∀ i j,i<r→j<r→i≠j→A i (p j)=0
 low:∀ i,i<r→∀ j,j<p i→A i j=0
theorem RR.coef {m r:Nat} {p:Nat→Nat} {A:Nat→Nat→F} (h:RR m r p A){v c:Nat→F} (hc:∀ j,j<m→v j=rsum r (fun i=>c i*A i j)){k:Nat} (hk:k<r):v (p k)=c k:=by
 rw[hc _ (h.lt k hk),rsum_single (k:=k) hk fun i hi hne=>by rw[h.zero i k hi hk hne,mul_zero],h.one k hk,mul_one]
theorem first_ne {c:Nat→F}:∀ r,(∀ i,i<r→c i=0)∨∃ k,k<r∧c k≠0∧∀ i,i<k→c i=0
 | 0=>.inl fun _ h=>absurd h (Nat.not_lt_zero _)
 | r+1=>by
  rcases first_ne (c:=c) r with h | ⟨k,hk,h1,h2⟩
  ·by_cases e:c r=0
   ·left;intro i hi;by_cases e2:i=r
    ·rw[e2]; exact e
    ·exact h i (by omega)
   ·exact .inr ⟨r,Nat.lt_succ_self _,e,h⟩
  ·exact .inr ⟨k,by omega,h1,h2⟩
theorem RR.lead {m r:Nat} {p:Nat→Nat} {A:Nat→Nat→F} (h:RR m r p A){v:Nat→F} (hv:Span r m A v){j0:Nat} (hj0:j0<m)(hne:v j0≠0):∃ k,k<r∧v (p k)≠0∧∀ j,j<p k→v j=0:=by
 obtain⟨c,hc⟩:=hv;rcases first_ne (c:=c) r with h0 | ⟨k,hk,h1,h2⟩
 ·exact absurd ((hc j0 hj0).trans (rsum_eq_zero fun i hi=>by rw[h0 i hi,zero_mul])) hne
 ·refine⟨k,hk,by rw[h.coef hc hk]; exact h1,fun j hj=>?_⟩;have:=h.lt k hk;rw[hc j (by omega)];refine rsum_eq_zero fun i hi=>?_
  by_cases e:i<k
  ·rw[h2 i e,zero_mul]
  ·rw[h.low i hi j ?_,mul_zero];by_cases e2:i=k
   ·rw[e2]; exact hj
   ·exact Nat.lt_trans hj (h.mono k i (by omega) hi)
theorem RR.pivot {m r s:Nat} {p q:Nat→Nat} {A B:Nat→Nat→F} (hA:RR m r p A)(hB:RR m s q B)(hs:SameSpan r s m A B){i:Nat} (hi:i<r):∃ k,k<s∧q k=p i:=by
 have h1:A i (p i)≠0:=by rw[hA.one i hi]; exact one_ne
 obtain⟨k,hk,h2,h3⟩:=hB.lead (hs.1 i hi) (hA.lt i hi) h1;refine⟨k,hk,?_⟩;rcases Nat.lt_trichotomy (q k) (p i) with h | h | h
 ·exact absurd (hA.low i hi _ h) h2
 ·exact h
 ·exact absurd (h3 _ h) h1
theorem mono_img {r s:Nat} {p q:Nat→Nat} (hp:∀ i j,i<j→j<r→p i<p j)(hq:∀ i j,i<j→j<s→q i<q j)(h1:∀ i,i<r→∃ k,k<s∧q k=p i)(h2:∀ i,i<s→∃ k,k<r∧p k=q i):∀ n i,i<n→i<r→i<s∧p i=q i
 | 0,i,hn,_=>absurd hn (Nat.not_lt_zero _)
 | n+1,i,hn,hi=>by
  have ih:=mono_img hp hq h1 h2 n;by_cases e:i<n
  ·exact ih i e hi
  obtain rfl:i=n:=by omega
  obtain⟨k,hk,hk2⟩:=h1 i hi;have h3:i≤k:=by
   rcases Nat.lt_or_ge k i with h | h
   ·exfalso;have h4:=(ih k h (by omega)).2;have h5:=hp k i h hi;omega
   ·exact h
  by_cases e2:k=i
  ·subst e2; exact⟨hk,hk2.symm⟩
  ·exfalso;have h4:=hq i k (by omega) hk;obtain⟨l,hl,hl2⟩:=h2 i (by omega);have h5:l<i:=by
    rcases Nat.lt_or_ge l i with h | h
    ·exact h
    ·exfalso;by_cases e3:l=i
     ·rw[e3]at hl2; omega
     ·have:=hp i l (by omega) hl; omega
   have h6:=(ih l h5 hl).2;have h7:=hq l i h5 (by omega);omega
theorem RR.uniq {m r s:Nat} {p q:Nat→Nat} {A B:Nat→Nat→F} (hA:RR m r p A)(hB:RR m s q B)(hs:SameSpan r s m A B):r=s∧∀ i,i<r→p i=q i∧∀ j,j<m→A i j=B i j:=by
 have h1:=mono_img hA.mono hB.mono (fun i hi=>hA.pivot hB hs hi) (fun i hi=>hB.pivot hA hs.symm hi);have h2:=mono_img hB.mono hA.mono (fun i hi=>hB.pivot hA hs.symm hi) (fun i hi=>hA.pivot hB hs hi);have hle:r≤s:=by
  rcases Nat.lt_or_ge s r with h | h
  ·have:=(h1 (s+1) s (Nat.lt_succ_self _) h).1; omega
  ·exact h
 have hge:s≤r:=by
  rcases Nat.lt_or_ge r s with h | h
  ·have:=(h2 (r+1) r (Nat.lt_succ_self _) h).1; omega
  ·exact h
 refine⟨by omega,fun i hi=>⟨(h1 (i+1) i (Nat.lt_succ_self _) hi).2,fun j hj=>?_⟩⟩;obtain⟨c,hc⟩:=hs.1 i hi;rw[hc j hj,rsum_single (k:=i) (by omega) fun t ht hne=>?_]
 ·rw[←hB.coef hc (k:=i) (by omega),←(h1 (i+1) i (Nat.lt_succ_self _) hi).2,hA.one i hi,one_mul]
 ·rw[←hB.coef hc ht,←(h1 (t+1) t (Nat.lt_succ_self _) (by omega)).2,hA.zero i t hi (by omega) (fun e=>hne e.symm),zero_mul]
end span
section elim
variable {F:Type} [CField F] [DecidableEq F]
open CField (inv)
def pvF (l:List Nat)(i:Nat):Nat:=l[i]?.getD 0
theorem pvF_old {l:List Nat} {c i:Nat} (h:i<l.length):pvF (l ++ [c]) i=pvF l i:=by unfold pvF; rw[List.getElem?_append_left h]
theorem pvF_new (l:List Nat)(c:Nat):pvF (l ++ [c]) l.length=c:=by unfold pvF; simp
structure EI (n m c:Nat) (A B:Nat→Nat→F) (l:List Nat):Prop where
 span:SameSpan n n m B A
 len:l.length≤n
 lt:∀ i,i<l.length→pvF l i<c
 mono:∀ i j,i<j→j<l.length→pvF l i<pvF l j
 one:∀ i,i<l.length→B i (pvF l i)=1
 zero:∀ i j,i<l.length→j<l.length→i≠j→B i (pvF l j)=0
 low:∀ i,i<l.length→∀ j,j<pvF l i→B i j=0
 rest:∀ i,l.length≤i→i<n→∀ j,j<c→B i j=0
theorem elS_EI (n m:Nat)(A:Nat→Nat→F):∀ c,EI n m c A (elS n A c).1 (elS n A c).2
 | 0=>⟨SameSpan.refl _ _ _,Nat.zero_le _,fun i h=>absurd h (Nat.not_lt_zero _),fun i j _ h=>absurd h (Nat.not_lt_zero _),fun i h=>absurd h (Nat.not_lt_zero _),fun i j h=>absurd h (Nat.not_lt_zero _),fun i h=>absurd h (Nat.not_lt_zero _),fun i _ _ j h=>absurd h (Nat.not_lt_zero _)⟩
 | c+1=>by
  have ih:=elS_EI n m A c;have hle:=(elS_le n A c).1;have hp:=pivG_le (elS n A c).1 c (n - (elS n A c).2.length) (elS n A c).2.length;have hpe:pivF (elS n A c).1 c n (elS n A c).2.length=pivG (elS n A c).1 c (n - (elS n A c).2.length) (elS n A c).2.length:=rfl;by_cases h:pivF (elS n A c).1 c n (elS n A c).2.length<n
  ·have hne:(elS n A c).1 (pivF (elS n A c).1 c n (elS n A c).2.length) c≠0:=pivG_ne _ _ _ _ (by rw[←hpe]; omega);rw[elS_yes rfl h];rw[←hpe]at hp;generalize pivF (elS n A c).1 c n (elS n A c).2.length=k at *;generalize (elS n A c).2=l at *;generalize (elS n A c).1=B at *;clear hpe;have hr:l.length<n:=by omega
   have hk0:=ih.rest k hp.1 h;have e1:∀ t,t<l.length→∀ j,stepR B n l.length k c t j=B t j+-(B t c)*(inv (B k c)*B k j):=fun t ht j=>by
    unfold stepR;have e3:scaleR (swapR B l.length k) l.length (inv (B k c)) t=B t:=by
     rw[show scaleR (swapR B l.length k) l.length (inv (B k c)) t=swapR B l.length k t from if_neg (by omega)];unfold swapR;rw[if_neg (by omega),if_neg (by omega)]
    have e4:scaleR (swapR B l.length k) l.length (inv (B k c)) l.length=fun j=>inv (B k c)*B k j:=by
     rw[show scaleR (swapR B l.length k) l.length (inv (B k c)) l.length=fun j=>inv (B k c)*swapR B l.length k l.length j from if_pos rfl];unfold swapR;rw[if_pos rfl]
    rw[show clearR (scaleR (swapR B l.length k) l.length (inv (B k c))) l.length c n t=fun j=>scaleR (swapR B l.length k) l.length (inv (B k c)) t j+-(scaleR (swapR B l.length k) l.length (inv (B k c)) t c)*scaleR (swapR B l.length k) l.length (inv (B k c)) l.length j from if_pos ⟨by omega,by omega⟩]
    (try dsimp only)
    rw[e3,e4]
   have e2:∀ j,stepR B n l.length k c l.length j=inv (B k c)*B k j:=fun j=>by
    unfold stepR;rw[clearR_self];rw[show scaleR (swapR B l.length k) l.length (inv (B k c)) l.length=fun j=>inv (B k c)*swapR B l.length k l.length j from if_pos rfl];unfold swapR;rw[if_pos rfl]
   have e5:∀ t,l.length<t→t<n→∀ j,j<c+1→stepR B n l.length k c t j=0:=fun t h1 h2 j hj=>by
    unfold stepR;have e3:∀ j,j<c→scaleR (swapR B l.length k) l.length (inv (B k c)) t j=0:=fun j hj=>by
     rw[show scaleR (swapR B l.length k) l.length (inv (B k c)) t=swapR B l.length k t from if_neg (by omega)];unfold swapR;rw[if_neg (by omega)];by_cases e:t=k
     ·rw[if_pos e]; exact ih.rest _ (Nat.le_refl _) hr j hj
     ·rw[if_neg e]; exact ih.rest t (by omega) h2 j hj
    have e4:scaleR (swapR B l.length k) l.length (inv (B k c)) l.length=fun j=>inv (B k c)*B k j:=by
     rw[show scaleR (swapR B l.length k) l.length (inv (B k c)) l.length=fun j=>inv (B k c)*swapR B l.length k l.length j from if_pos rfl];unfold swapR;rw[if_pos rfl]
    rw[show clearR (scaleR (swapR B l.length k) l.length (inv (B k c))) l.length c n t=fun j=>scaleR (swapR B l.length k) l.length (inv (B k c)) t j+-(scaleR (swapR B l.length k) l.length (inv (B k c)) t c)*scaleR (swapR B l.length k) l.length (inv (B k c)) l.length j from if_pos ⟨h2,by omega⟩]
    (try dsimp only)
    rw[e4]
    (try dsimp only)
    by_cases e:j=c
    ·rw[e,inv_mul hne,mul_one,add_neg]
    ·rw[e3 j (by omega),hk0 j (by omega),mul_zero,mul_zero,add_zero]
   have hlen:(l ++ [c]).length=l.length+1:=by simp
   have e6:∀ t,t<l.length→∀ j,j<c→stepR B n l.length k c t j=B t j:=fun t ht j hj=>by rw[e1 t ht,hk0 j hj,mul_zero,mul_zero,add_zero]
   have e7:∀ j,j<c→stepR B n l.length k c l.length j=0:=fun j hj=>by rw[e2,hk0 j hj,mul_zero]
   refine⟨(((sameSpan_clear _ hr).trans (sameSpan_scale _ (inv_ne_zero hne))).trans (sameSpan_swap _ hr h)).trans ih.span,by dsimp only; omega,fun i hi=>?_,fun i j hij hj=>?_,fun i hi=>?_,fun i j hi hj hij=>?_,fun i hi j hj=>?_,fun i h1 h2 j hj=>?_⟩ <;> (try dsimp only at *) <;> rw[hlen]at *
   ·by_cases e:i=l.length
    ·rw[e,pvF_new]; omega
    ·rw[pvF_old (by omega)]; have:=ih.lt i (by omega); omega
   ·by_cases e:j=l.length
    ·rw[e,pvF_new,pvF_old (by omega)]; exact ih.lt i (by omega)
    ·rw[pvF_old (by omega),pvF_old (by omega)]; exact ih.mono i j hij (by omega)
   ·by_cases e:i=l.length
    ·rw[e,pvF_new,e2,inv_mul hne]
    ·rw[pvF_old (by omega),e6 i (by omega) _ (ih.lt i (by omega))]; exact ih.one i (by omega)
   ·by_cases e:j=l.length
    ·rw[e,pvF_new,e1 i (by omega),inv_mul hne,mul_one,add_neg]
    ·rw[pvF_old (by omega)];by_cases e8:i=l.length
     ·rw[e8]; exact e7 _ (ih.lt j (by omega))
     ·rw[e6 i (by omega) _ (ih.lt j (by omega))]; exact ih.zero i j (by omega) (by omega) hij
   ·by_cases e:i=l.length
    ·rw[e,pvF_new]at hj; rw[e]; exact e7 j hj
    ·rw[pvF_old (by omega)]at hj;have:=ih.lt i (by omega);rw[e6 i (by omega) j (by omega)]; exact ih.low i (by omega) j hj
   ·exact e5 i (by omega) h2 j hj
  ·rw[show elS n A (c+1)=elS n A c from if_neg h];refine⟨ih.span,ih.len,fun i hi=>by have:=ih.lt i hi; omega,ih.mono,ih.one,ih.zero,ih.low,fun i h1 h2 j hj=>?_⟩;by_cases e5:j=c
   ·rw[e5];exact pivG_zero _ _ _ _ _ h1 (by rw[←hpe]; omega)
   ·exact ih.rest i h1 h2 j (by omega)
theorem elS_RR (n m:Nat)(A:Nat→Nat→F):RR m (elS n A m).2.length (pvF (elS n A m).2) (elS n A m).1:=by
 have h:=elS_EI n m A m;exact⟨h.lt,h.mono,h.one,h.zero,h.low⟩
theorem elS_span (n m:Nat)(A:Nat→Nat→F):SameSpan (elS n A m).2.length n m (elS n A m).1 A:=by
 have h:=elS_EI n m A m;refine⟨fun t ht=>h.span.1 t (by have:=h.len; omega),fun t ht=>?_⟩;obtain⟨c,hc⟩:=h.span.2 t ht;refine⟨c,fun j hj=>?_⟩;rw[hc j hj];obtain⟨d,hd⟩:∃ d,n=(elS n A m).2.length+d:=⟨n - (elS n A m).2.length,by have:=h.len; omega⟩;have hr:=h.rest;generalize (elS n A m).2.length=r at *;generalize (elS n A m).1=B at *;subst hd;rw[rsum_split,rsum_eq_zero (n:=d) fun i hi=>by rw[hr (r+i) (by omega) (by omega) j hj,mul_zero],add_zero]
theorem elS_uniq {n n' m:Nat} {A B:Nat→Nat→F} (h:SameSpan n n' m A B):(elS n A m).2.length=(elS n' B m).2.length∧∀ i,i<(elS n A m).2.length→pvF (elS n A m).2 i=pvF (elS n' B m).2 i∧∀ j,j<m→(elS n A m).1 i j=(elS n' B m).1 i j :=
 (elS_RR n m A).uniq (elS_RR n' m B) (((elS_span n m A).trans h).trans (elS_span n' m B).symm)
end elim
end Cw
