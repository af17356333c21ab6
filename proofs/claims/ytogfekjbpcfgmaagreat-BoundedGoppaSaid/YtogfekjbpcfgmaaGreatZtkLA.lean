/- Plain algebra: Gauss-Jordan elimination as a function. -/
import Derived.Test.YtogfekjbpcfgmaaGreatZtkP1
set_option maxRecDepth 100000
set_option maxHeartbeats 16000000
set_option linter.unusedVariables false
namespace Cw
section swap
variable {F:Type}
def Qbt (A:Nat→Nat→F)(i k:Nat):Nat→Nat→F:=fun t=>if t=i then A k else if t=k then A i else A t
def QgO {X:Type} (rows:Nat→X)(i:Nat)(l:X):Nat→X:=fun t=>if t=i then l else rows t
theorem Qpg (A:Nat→Nat→F)(i k:Nat):QgO (QgO A i (A k)) k (A i)=Qbt A i k:=funext fun t=>by
 unfold QgO Qbt;by_cases e:t=k
 ·subst e;rw[if_pos rfl];by_cases I:t=i
  ·subst I;rw[if_pos rfl]
  ·rw[if_neg I,if_pos rfl]
 ·rw[if_neg e];by_cases I:t=i
  ·rw[if_pos I,if_pos I]
  ·rw[if_neg I,if_neg I,if_neg e]
end swap
section steps
variable {F:Type} [CField F]
open CField (inv)
def Qbm (A:Nat→Nat→F)(i:Nat)(x:F):Nat→Nat→F:=fun t=>if t=i then fun j=>x*A i j else A t
def QbE (A:Nat→Nat→F)(a c i:Nat):Nat→Nat→F:=fun t=>if t<i∧t≠a then fun j=>A t j+-(A t c)*A a j else A t
def QgD (A:Nat→Nat→F)(n a k c:Nat):Nat→Nat→F:=QbE (Qbm (Qbt A a k) a (inv (A k c))) a c n
theorem Qlj (A:Nat→Nat→F)(a c:Nat):QbE A a c 0=A:=funext fun t=>if_neg (by omega)
theorem Qe8 (A:Nat→Nat→F)(a c i:Nat):QbE A a c i a=A a:=if_neg (by omega)
theorem Qph (A:Nat→Nat→F)(a c i:Nat):QbE A a c i i=A i:=if_neg (by omega)
theorem Qhj {A:Nat→Nat→F} {a c i:Nat} (h:i=a∨A i c=0):QbE A a c (i+1)=QbE A a c i:=funext fun t=>by
 unfold QbE;by_cases e:t=i
 ·subst e;by_cases I:t=a
  ·rw[if_neg (by omega),if_neg (by omega)]
  ·have h0:A t c=0:=h.resolve_left I;rw[if_pos (by omega),if_neg (by omega)];exact funext fun j=>by rw[h0,QcT,Qah,Qad]
 ·by_cases I:t<i∧t≠a
  ·rw[if_pos (by omega),if_pos I]
  ·rw[if_neg (by omega),if_neg I]
theorem Qnp {A:Nat→Nat→F} {a c i:Nat} (h:i≠a):QgO (QbE A a c i) i (fun j=>A i j+-(A i c)*A a j)=QbE A a c (i+1):=funext fun t=>by
 unfold QgO QbE;by_cases e:t=i
 ·subst e;rw[if_pos rfl,if_pos (by omega)]
 ·rw[if_neg e];by_cases I:t<i∧t≠a
  ·rw[if_pos I,if_pos (by omega)]
  ·rw[if_neg I,if_neg (by omega)]
theorem Qnq (A:Nat→Nat→F)(i:Nat):Qbm A i 1=A:=funext fun t=>by
 unfold Qbm;by_cases e:t=i
 ·rw[if_pos e,e];exact funext fun j=>Qav _
 ·rw[if_neg e]
end steps
section elim
variable {F:Type} [CField F] [DecidableEq F]
open CField (inv)
def QgP (A:Nat→Nat→F)(c:Nat):Nat→Nat→Nat
 |0,k=>k
 |d+1,k=>if A k c=0 then QgP A c d (k+1) else k
def Qki (A:Nat→Nat→F)(c n a:Nat):Nat:=QgP A c (n - a) a
theorem Qpi (A:Nat→Nat→F)(c:Nat):∀d a k,a≤k→k≤a+d→(∀t,a≤t→t<k→A t c=0)→(k=a+d∨A k c≠0)→QgP A c d a=k
 |0,a,k,h1,h2,_,_=>by show a=k;omega
 |d+1,a,k,h1,h2,h3,h4=>by
  by_cases e:a=k
  ·subst e;rcases h4 with h |h
   ·omega
   ·exact if_neg h
  ·rw[show QgP A c (d+1) a=QgP A c d (a+1) from if_pos (h3 a ρ (by omega))];exact Qpi A c d (a+1) k (by omega) (by omega) (fun t J I=>h3 t (by omega) I) (h4.imp (fun h=>by omega) id)
theorem Qpj {A:Nat→Nat→F} {c n a k:Nat} (I:a≤k)(T:k≤n)(J:∀t,a≤t→t<k→A t c=0)(O:k=n∨A k c≠0):Qki A c n a=k :=
 Qpi A c _ _ _ I (by omega) J (O.imp (fun h=>by omega) id)
theorem Qhk (A:Nat→Nat→F)(c:Nat):∀d a,a≤QgP A c d a∧QgP A c d a≤a+d
 |0,a=>⟨Nat.le_refl _,Nat.le_refl _⟩
 |d+1,a=>by
  have h:=Qhk A c d (a+1);by_cases e:A a c=0
  ·rw[show QgP A c (d+1) a=QgP A c d (a+1) from if_pos e];omega
  ·rw[show QgP A c (d+1) a=a from if_neg e];omega
def elS (n:Nat)(A:Nat→Nat→F):Nat→(Nat→Nat→F)×List Nat
 |0=>(A,[])
 |c+1=>if Qki (elS n A c).1 c n (elS n A c).2.length<n then
   (QgD (elS n A c).1 n (elS n A c).2.length (Qki (elS n A c).1 c n (elS n A c).2.length) c,(elS n A c).2 ++ [c]) else elS n A c
theorem Qvo {n:Nat} {A:Nat→Nat→F} {c:Nat} (h:Qki (elS n A c).1 c n (elS n A c).2.length=n):elS n A (c+1)=elS n A c:=if_neg (by rw[h];exact Nat.lt_irrefl _)
theorem Qi9 {n:Nat} {A:Nat→Nat→F} {c k:Nat} (h:Qki (elS n A c).1 c n (elS n A c).2.length=k)(I:k<n) :
  elS n A (c+1)=(QgD (elS n A c).1 n (elS n A c).2.length k c,(elS n A c).2 ++ [c]):=by
 subst h;exact if_pos I
theorem Qgu (n:Nat)(A:Nat→Nat→F):∀c,(elS n A c).2.length≤n∧(elS n A c).2.length≤c
 |0=>⟨Nat.zero_le _,Nat.zero_le _⟩
 |c+1=>by
  have I:=Qgu n A c;have hp:=Qhk (elS n A c).1 c (n - (elS n A c).2.length) (elS n A c).2.length;by_cases h:Qki (elS n A c).1 c n (elS n A c).2.length<n
  ·rw[Qi9 rfl h];have:Qki (elS n A c).1 c n (elS n A c).2.length=QgP (elS n A c).1 c (n - (elS n A c).2.length) (elS n A c).2.length:=rfl;simp only[List.length_append,List.length_singleton];omega
  ·rw[show elS n A (c+1)=elS n A c from if_neg h];omega
theorem Qja {n:Nat} {A:Nat→Nat→F} {c:Nat} (h:n≤(elS n A c).2.length):∀d,elS n A (c+d)=elS n A c
 |0=>rfl
 |d+1=>by
  have I:=Qja h d
  show elS n A (c+d+1)=_
  have hp:¬ Qki (elS n A (c+d)).1 (c+d) n (elS n A (c+d)).2.length<n:=by
   have:=(Qhk (elS n A (c+d)).1 (c+d) (n - (elS n A (c+d)).2.length) (elS n A (c+d)).2.length).1;rw[I]at this ⊢;unfold Qki;omega
  rw[show elS n A (c+d+1)=elS n A (c+d) from if_neg hp,I]
end elim
end Cw
namespace Cw
section sig
variable {F:Type}
theorem Qpk (A:Nat→Nat→F)(a k i:Nat):Qbt A a k (if i=a then k else if i=k then a else i)=A i:=by
 unfold Qbt;by_cases J:i=a
 ·rw[if_pos J];by_cases I:k=a
  ·rw[if_pos I,I,J]
  ·rw[if_neg I,if_pos rfl,J]
 ·rw[if_neg J];by_cases I:i=k
  ·rw[if_pos I,if_pos rfl,I]
  ·rw[if_neg I,if_neg J,if_neg I]
end sig
section rank
variable {F:Type} [CField F]
open CField (inv)
def Qe9 (n m:Nat)(A:Nat→Nat→F):Prop:=∀c:Nat→F,(∀j,j<m→Qat n (fun i=>c i*A i j)=0)→∀i,i<n→c i=0
theorem Qnr {n a k:Nat} (T:a<n)(U:k<n)(f:Nat→F):Qat n (fun i=>f (if i=a then k else if i=k then a else i))=Qat n f:=by
 by_cases e:a=k
 ·subst e;exact Qaa fun i _=>by
   by_cases h:i=a
   ·rw[if_pos h,h]
   ·rw[if_neg h,if_neg h]
 have h:∀i,i<n→f (if i=a then k else if i=k then a else i)=f i+((if i=a then f k+-(f a) else 0)+(if i=k then f a+-(f k) else 0)):=fun i _=>by
  by_cases J:i=a
  ·subst J;rw[if_pos rfl,if_pos rfl,if_neg e,Qad,Qoz,QaU,Qad]
  ·rw[if_neg J,if_neg J];by_cases O:i=k
   ·subst O;rw[if_pos rfl,if_pos rfl,Qai,Qoz,QaU,Qad]
   ·rw[if_neg O,if_neg O,Qad,Qad]
 rw[Qaa h,Qbc,Qbc,Qak (k:=a) T fun i _ I=>if_neg I,Qak (k:=k) U fun i _ I=>if_neg I,if_pos rfl,if_pos rfl,QcD (f k),←QcD (-(f a)),Qcu,Qai,QaU,Qad]
theorem Qe9.swap {n m a k:Nat} {A:Nat→Nat→F} (h:Qe9 n m A)(U:a<n)(V:k<n):Qe9 n m (Qbt A a k):=fun c Y=>by
 have O:=h (fun i=>c (if i=a then k else if i=k then a else i)) fun j hj=>by
  refine Eq.trans ?_ (Y j hj);refine Eq.trans (Qaa fun i _=>?_) (Qnr U V (fun i=>c i*Qbt A a k i j));rw[Qpk]
 intro i X;by_cases T:i=a
 ·have I:=O k V
  (try dsimp only at I)
  by_cases J:k=a
  ·rw[if_pos J,J]at I;rw[T];exact I
  ·rw[if_neg J,if_pos rfl]at I;rw[T];exact I
 ·by_cases J:i=k
  ·have I:=O a U
   (try dsimp only at I)
   rw[if_pos rfl]at I;rw[J];exact I
  ·have I:=O i X
   (try dsimp only at I)
   rw[if_neg T,if_neg J]at I;exact I
theorem Qe9.scale {n m a:Nat} {A:Nat→Nat→F} (h:Qe9 n m A){x:F} (J:x≠0):Qe9 n m (Qbm A a x):=fun c U=>by
 have O:=h (fun i=>if i=a then c i*x else c i) fun j V=>by
  rw[←U j V];exact Qaa fun i _=>by
   unfold Qbm
   (try dsimp only)
   by_cases e:i=a
   ·rw[if_pos e,if_pos e,e,Qa6]
   ·rw[if_neg e,if_neg e]
 intro i T;have I:=O i T
 (try dsimp only at I)
 by_cases e:i=a
 ·rw[if_pos e]at I;exact (Qbx I).resolve_right J
 ·rw[if_neg e]at I;exact I
theorem Qe9.clear {n m a k:Nat} {A:Nat→Nat→F} (h:Qe9 n m A)(V:a<n):Qe9 n m (QbE A a k n):=fun c X=>by
 have T:=h (fun i=>c i+if i=a then Qat n (fun t=>if t=a then 0 else c t*-(A t k)) else 0) fun j Y=>by
  refine Eq.trans (Eq.trans (Qaa (g:=fun i=>c i*A i j+(if i=a then Qat n (fun t=>if t=a then 0 else c t*-(A t k))*A a j else 0)) fun i _=>?_) ?_) (X j Y);rotate_left
  ·rw[Qbc,Qak (n:=n) (k:=a) (f:=fun i=>if i=a then Qat n (fun t=>if t=a then 0 else c t*-(A t k))*A a j else 0) V fun i _ aa=>if_neg aa,if_pos rfl,←Qar,←Qbc];exact Qaa fun i J=>by
    unfold QbE;by_cases e:i=a
    ·rw[if_pos e,if_neg (fun h=>h.2 e),Qah,Qad]
    ·rw[if_neg e,if_pos ⟨J,e⟩,QaQ,Qa6]
  ·by_cases e:i=a
   ·rw[if_pos e,if_pos e,e,Qbw]
   ·rw[if_neg e,if_neg e,Qad,Qad]
 have U:∀i,i<n→i≠a→c i=0:=fun i J e=>by
  have I:=T i J
  (try dsimp only at I)
  rw[if_neg e,Qad]at I;exact I
 intro i J;by_cases e:i=a
 ·have I:=T i J
  (try dsimp only at I)
  rw[if_pos e,Qag fun t ht=>?_,Qad]at I
  ·exact I
  ·by_cases O:t=a
   ·exact if_pos O
   ·rw[if_neg O,U t ht O,Qah]
 ·exact U i J e
end rank
section elim
variable {F:Type} [CField F] [DecidableEq F]
open CField (inv)
theorem Qhl (A:Nat→Nat→F)(c:Nat):∀d a t,a≤t→t<QgP A c d a→A t c=0
 |0,a,t,h1,h2=>by
  have:QgP A c 0 a=a:=rfl;omega
 |d+1,a,t,h1,h2=>by
  by_cases e:A a c=0
  ·by_cases I:t=a
   ·rw[I];exact e
   ·rw[show QgP A c (d+1) a=QgP A c d (a+1) from if_pos e]at h2;exact Qhl A c d (a+1) t (by omega) h2
  ·rw[show QgP A c (d+1) a=a from if_neg e]at h2;omega
theorem Qlk (A:Nat→Nat→F)(c:Nat):∀d a,QgP A c d a<a+d→A (QgP A c d a) c≠0
 |0,a,h=>by
  have:QgP A c 0 a=a:=rfl;omega
 |d+1,a,h=>by
  by_cases e:A a c=0
  ·rw[show QgP A c (d+1) a=QgP A c d (a+1) from if_pos e]at h ⊢;exact Qlk A c d (a+1) (by omega)
  ·rw[show QgP A c (d+1) a=a from if_neg e];exact e
theorem Qpl {n m:Nat} {A:Nat→Nat→F} (X:Qe9 n m A):∀c,Qe9 n m (elS n A c).1∧∀i,(elS n A c).2.length≤i→i<n→∀j,j<c→(elS n A c).1 i j=0
 |0=>⟨X,fun _ _ _ _ I=>absurd I (Nat.not_lt_zero _)⟩
 |c+1=>by
  obtain⟨ac,O⟩:=Qpl X c;have ak:=(Qgu n A c).1;have hp:=Qhk (elS n A c).1 c (n - (elS n A c).2.length) (elS n A c).2.length;have U:Qki (elS n A c).1 c n (elS n A c).2.length=QgP (elS n A c).1 c (n - (elS n A c).2.length) (elS n A c).2.length:=rfl;by_cases h:Qki (elS n A c).1 c n (elS n A c).2.length<n
  ·have Y:(elS n A c).1 (Qki (elS n A c).1 c n (elS n A c).2.length) c≠0:=Qlk _ _ _ _ (by rw[←U];omega);rw[Qi9 rfl h];generalize hk:Qki (elS n A c).1 c n (elS n A c).2.length=k at *;generalize hr:(elS n A c).2.length=r at *;generalize (elS n A c).1=B at *;rw[←U]at hp;refine⟨((ac.swap (by omega) h).scale (Qby Y)).clear (by omega),fun i J T j I=>?_⟩
   (try dsimp only at J ⊢)
   rw[List.length_append,List.length_singleton,hr]at J;unfold QgD;have hs:∀t,r≤t→t<n→∀j,j<c→Qbt B r k t j=0:=fun t h3 h4 j I=>by
    unfold Qbt;by_cases e1:t=r
    ·rw[if_pos e1];exact O k hp.1 h j I
    ·rw[if_neg e1];by_cases e2:t=k
     ·rw[if_pos e2];exact O r ρ (by omega) j I
     ·rw[if_neg e2];exact O t h3 h4 j I
   have hi:i≠r:=by omega
   show QbE (Qbm (Qbt B r k) r (inv (B k c))) r c n i j=0
   unfold QbE;rw[if_pos ⟨T,hi⟩];have e3:Qbm (Qbt B r k) r (inv (B k c)) i=Qbt B r k i:=if_neg hi;have e4:Qbm (Qbt B r k) r (inv (B k c)) r=fun j=>inv (B k c)*Qbt B r k r j:=if_pos rfl
   (try dsimp only)
   rw[e3,e4]
   (try dsimp only)
   by_cases V:j=c
   ·rw[V,show Qbt B r k r c=B k c from congrFun (if_pos rfl) c,QbH Y,Qax,QaU]
   ·rw[hs i (by omega) T j (by omega),hs r ρ (by omega) j (by omega),Qac,Qac,Qad]
  ·rw[show elS n A (c+1)=elS n A c from if_neg h];refine⟨ac,fun i J T j I=>?_⟩;by_cases V:j=c
   ·rw[V];exact Qhl _ _ _ _ _ J (by rw[←U];omega)
   ·exact O i J T j (by omega)
theorem QgQ {n m:Nat} {A:Nat→Nat→F} (T:Qe9 n m A):(elS n A m).2.length=n:=by
 have Y:=(Qgu n A m).1;obtain⟨U,V⟩:=Qpl T m;refine Classical.byContradiction fun O=>?_
 have I:(elS n A m).2.length<n:=by omega
 have J:=U (fun i=>if i=(elS n A m).2.length then 1 else 0) (fun j X=>by
  rw[Qak (k:=(elS n A m).2.length) I fun i _ O=>by rw[if_neg O,Qah],if_pos rfl,Qav];exact V _ ρ I j X) _ I
 (try dsimp only at J)
 rw[if_pos rfl]at J;exact QbD J
end elim
end Cw
namespace Cw
section span
variable {F:Type} [CField F]
open CField (inv)
def Qb2 (n m:Nat)(A:Nat→Nat→F)(v:Nat→F):Prop:=∃c:Nat→F,∀j,j<m→v j=Qat n (fun i=>c i*A i j)
theorem Qb2.congr {n m:Nat} {A:Nat→Nat→F} {u v:Nat→F} (h:Qb2 n m A u)(e:∀j,j<m→v j=u j):Qb2 n m A v:=by
 obtain⟨c,J⟩:=h;exact⟨c,fun j I=>(e j I).trans (J j I)⟩
theorem Qb2.row {n m i:Nat} (A:Nat→Nat→F)(I:i<n):Qb2 n m A (A i) :=
 ⟨fun t=>if t=i then 1 else 0,fun j _=>by
  dsimp only;rw[Qak (k:=i) I fun t _ J=>by rw[if_neg J,Qah],if_pos rfl,Qav]⟩
theorem Qb2.zero (n m:Nat)(A:Nat→Nat→F):Qb2 n m A (fun _=>0):=⟨fun _=>0,fun j _=>by rw[Qag fun i _=>Qah _]⟩
theorem Qb2.add {n m:Nat} {A:Nat→Nat→F} {u v:Nat→F} (h:Qb2 n m A u)(g:Qb2 n m A v):Qb2 n m A (fun j=>u j+v j):=by
 obtain⟨c,J⟩:=h;obtain⟨d,O⟩:=g;exact⟨fun i=>c i+d i,fun j I=>by dsimp only;rw[J j I,O j I,←Qbc];exact Qaa fun i _=>(Qbw _ _ _).symm⟩
theorem Qb2.smul {n m:Nat} {A:Nat→Nat→F} {u:Nat→F} (h:Qb2 n m A u)(x:F):Qb2 n m A (fun j=>x*u j):=by
 obtain⟨c,I⟩:=h;exact⟨fun i=>x*c i,fun j J=>by dsimp only;rw[I j J,←Qal];exact Qaa fun i _=>(Qa6 _ _ _).symm⟩
theorem Qb2.sum {n m:Nat} {A:Nat→Nat→F} (f:Nat→Nat→F):∀k,(∀t,t<k→Qb2 n m A (f t))→Qb2 n m A (fun j=>Qat k (fun t=>f t j))
 |0,_=>Qb2.zero n m A
 |k+1,h=>(Qb2.sum f k fun t I=>h t (by omega)).add (h k (by omega))
theorem Qb2.trans {n n' m:Nat} {A B:Nat→Nat→F} {v:Nat→F} (h:Qb2 n' m B v)(I:∀t,t<n'→Qb2 n m A (B t)):Qb2 n m A v:=by
 obtain⟨c,J⟩:=h;exact (Qb2.sum (fun t j=>c t*B t j) n' fun t O=>(I t O).smul (c t)).congr J
def Qbd (n n' m:Nat)(A B:Nat→Nat→F):Prop:=(∀t,t<n→Qb2 n' m B (A t))∧(∀t,t<n'→Qb2 n m A (B t))
theorem Qbd.refl (n m:Nat)(A:Nat→Nat→F):Qbd n n m A A:=⟨fun _ I=>Qb2.row A I,fun _ I=>Qb2.row A I⟩
theorem Qbd.symm {n n' m:Nat} {A B:Nat→Nat→F} (h:Qbd n n' m A B):Qbd n' n m B A:=⟨h.2,h.1⟩
theorem Qbd.trans {n n' J m:Nat} {A B C:Nat→Nat→F} (h:Qbd n n' m A B)(g:Qbd n' J m B C):Qbd n J m A C :=
 ⟨fun t I=>(h.1 t I).trans g.1,fun t I=>(g.2 t I).trans h.2⟩
theorem Qjb {n m a k:Nat} (A:Nat→Nat→F)(O:a<n)(U:k<n):Qbd n n m (Qbt A a k) A:=by
 have V:∀t,t<n→∃s,s<n∧Qbt A a k t=A s:=fun t J=>by
  unfold Qbt;by_cases e:t=a
  ·exact⟨k,U,if_pos e⟩
  ·rw[if_neg e];by_cases I:t=k
   ·exact⟨a,O,if_pos I⟩
   ·exact⟨t,J,if_neg I⟩
 have X:∀t,t<n→∃s,s<n∧A t=Qbt A a k s:=fun t J=>by
  unfold Qbt;by_cases e:t=a
  ·by_cases I:k=a
   ·exact⟨a,O,by rw[if_pos rfl,e,I]⟩
   ·exact⟨k,U,by rw[if_neg I,if_pos rfl,e]⟩
  ·by_cases I:t=k
   ·exact⟨a,O,by rw[if_pos rfl,I]⟩
   ·exact⟨t,J,by rw[if_neg e,if_neg I]⟩
 exact⟨fun t J=>by obtain⟨s,T,e⟩:=V t J;rw[e];exact Qb2.row A T,fun t J=>by obtain⟨s,T,e⟩:=X t J;rw[e];exact Qb2.row _ T⟩
theorem Qh8 {n m a:Nat} (A:Nat→Nat→F){x:F} (J:x≠0):Qbd n n m (Qbm A a x) A:=by
 refine⟨fun t I=>?_,fun t I=>?_⟩
 ·unfold Qbm;by_cases e:t=a
  ·rw[if_pos e];exact (Qb2.row A (e ▸ I)).smul x
  ·rw[if_neg e];exact Qb2.row A I
 ·have h:=Qb2.row (m:=m) (Qbm A a x) I;by_cases e:t=a
  ·refine (h.smul (inv x)).congr fun j _=>?_
   rw[show Qbm A a x t=fun j=>x*A a j from if_pos e]
   (try dsimp only)
   rw[←Qa6,QbH J,Qav,e]
  ·rw[show Qbm A a x t=A t from if_neg e]at h;exact h
theorem Qh9 {n m a k:Nat} (A:Nat→Nat→F)(J:a<n):Qbd n n m (QbE A a k n) A:=by
 have O:QbE A a k n a=A a:=Qe8 A a k n;refine⟨fun t I=>?_,fun t I=>?_⟩
 ·by_cases e:t=a
  ·rw[e,O];exact Qb2.row A J
  ·rw[show QbE A a k n t=fun j=>A t j+-(A t k)*A a j from if_pos ⟨I,e⟩];exact (Qb2.row A I).add ((Qb2.row A J).smul _)
 ·by_cases e:t=a
  ·rw[e,←O];exact Qb2.row _ J
  ·refine ((Qb2.row (m:=m) (QbE A a k n) I).add ((Qb2.row (m:=m) (QbE A a k n) J).smul (A t k))).congr fun j _=>?_
   rw[O,show QbE A a k n t=fun j=>A t j+-(A t k)*A a j from if_pos ⟨I,e⟩]
   (try dsimp only)
   rw[Qbb,QcD,Qcu,Qad]
structure RR (m r:Nat) (p:Nat→Nat) (A:Nat→Nat→F):Prop where
 lt:∀i,i<r→p i<m
 mono:∀i j,i<j→j<r→p i<p j
 one:∀i,i<r→A i (p i)=1
 zero:∀i j,i<r→j<r→i≠j→A i (p j)=0
 low:∀i,i<r→∀j,j<p i→A i j=0
theorem RR.coef {m r:Nat} {p:Nat→Nat} {A:Nat→Nat→F} (h:RR m r p A){v c:Nat→F} (J:∀j,j<m→v j=Qat r (fun i=>c i*A i j)){k:Nat} (I:k<r):v (p k)=c k:=by
 rw[J _ (h.lt k I),Qak (k:=k) I fun i O T=>by rw[h.zero i k O I T,Qac],h.one k I,Qax]
theorem Qmh {c:Nat→F}:∀r,(∀i,i<r→c i=0)∨∃k,k<r∧c k≠0∧∀i,i<k→c i=0
 |0=>.inl fun _ h=>absurd h (Nat.not_lt_zero _)
 |r+1=>by
  rcases Qmh (c:=c) r with h |⟨k,U,I,J⟩
  ·by_cases e:c r=0
   ·left;intro i T;by_cases O:i=r
    ·rw[O];exact e
    ·exact h i (by omega)
   ·exact .inr ⟨r,Nat.lt_succ_self _,e,h⟩
  ·exact .inr ⟨k,by omega,I,J⟩
theorem RR.lead {m r:Nat} {p:Nat→Nat} {A:Nat→Nat→F} (h:RR m r p A){v:Nat→F} (V:Qb2 r m A v){J:Nat} (X:J<m)(Y:v J≠0):∃k,k<r∧v (p k)≠0∧∀j,j<p k→v j=0:=by
 obtain⟨c,O⟩:=V;rcases Qmh (c:=c) r with h0 |⟨k,T,h1,h2⟩
 ·exact absurd ((O J X).trans (Qag fun i I=>by rw[h0 i I,Qah])) Y
 ·refine⟨k,T,by rw[h.coef O T];exact h1,fun j U=>?_⟩;have:=h.lt k T;rw[O j (by omega)];refine Qag fun i I=>?_
  by_cases e:i<k
  ·rw[h2 i e,Qah]
  ·rw[h.low i I j ?_,Qac];by_cases e2:i=k
   ·rw[e2];exact U
   ·exact Nat.lt_trans U (h.mono k i (by omega) I)
theorem RR.pivot {m r s:Nat} {p q:Nat→Nat} {A B:Nat→Nat→F} (J:RR m r p A)(T:RR m s q B)(U:Qbd r s m A B){i:Nat} (I:i<r):∃k,k<s∧q k=p i:=by
 have O:A i (p i)≠0:=by rw[J.one i I];exact QbD
 obtain⟨k,V,X,Y⟩:=T.lead (U.1 i I) (J.lt i I) O;refine⟨k,V,?_⟩;rcases Nat.lt_trichotomy (q k) (p i) with h |h |h
 ·exact absurd (J.low i I _ h) X
 ·exact h
 ·exact absurd (Y _ h) O
theorem Qjc {r s:Nat} {p q:Nat→Nat} (hp:∀i j,i<j→j<r→p i<p j)(I:∀i j,i<j→j<s→q i<q j)(T:∀i,i<r→∃k,k<s∧q k=p i)(U:∀i,i<s→∃k,k<r∧p k=q i):∀n i,i<n→i<r→i<s∧p i=q i
 |0,i,hn,_=>absurd hn (Nat.not_lt_zero _)
 |n+1,i,hn,hi=>by
  have J:=Qjc hp I T U n;by_cases e:i<n
  ·exact J i e hi
  obtain rfl:i=n:=by omega
  obtain⟨k,V,aa⟩:=T i hi;have h3:i≤k:=by
   rcases Nat.lt_or_ge k i with h |h
   ·exfalso;have Y:=(J k h (by omega)).2;have O:=hp k i h hi;omega
   ·exact h
  by_cases e2:k=i
  ·subst e2;exact⟨V,aa.symm⟩
  ·exfalso;have Y:=I i k (by omega) V;obtain⟨l,X,ab⟩:=U i (by omega);have O:l<i:=by
    rcases Nat.lt_or_ge l i with h |h
    ·exact h
    ·exfalso;by_cases e3:l=i
     ·rw[e3]at ab;omega
     ·have:=hp i l (by omega) X;omega
   have h6:=(J l O X).2;have h7:=I l i O (by omega);omega
theorem RR.uniq {m r s:Nat} {p q:Nat→Nat} {A B:Nat→Nat→F} (J:RR m r p A)(O:RR m s q B)(T:Qbd r s m A B):r=s∧∀i,i<r→p i=q i∧∀j,j<m→A i j=B i j:=by
 have U:=Qjc J.mono O.mono (fun i I=>J.pivot O T I) (fun i I=>O.pivot J T.symm I);have X:=Qjc O.mono J.mono (fun i I=>O.pivot J T.symm I) (fun i I=>J.pivot O T I);have ac:r≤s:=by
  rcases Nat.lt_or_ge s r with h |h
  ·have:=(U (s+1) s (Nat.lt_succ_self _) h).1;omega
  ·exact h
 have ad:s≤r:=by
  rcases Nat.lt_or_ge r s with h |h
  ·have:=(X (r+1) r (Nat.lt_succ_self _) h).1;omega
  ·exact h
 refine⟨by omega,fun i I=>⟨(U (i+1) i (Nat.lt_succ_self _) I).2,fun j Y=>?_⟩⟩;obtain⟨c,V⟩:=T.1 i I;rw[V j Y,Qak (k:=i) (by omega) fun t ht ab=>?_]
 ·rw[←O.coef V (k:=i) (by omega),←(U (i+1) i (Nat.lt_succ_self _) I).2,J.one i I,Qav]
 ·rw[←O.coef V ht,←(U (t+1) t (Nat.lt_succ_self _) (by omega)).2,J.zero i t I (by omega) (fun e=>ab e.symm),Qah]
end span
section elim
variable {F:Type} [CField F] [DecidableEq F]
open CField (inv)
def pvF (l:List Nat)(i:Nat):Nat:=l[i]?.getD 0
theorem Qfa {l:List Nat} {c i:Nat} (h:i<l.length):pvF (l ++ [c]) i=pvF l i:=by unfold pvF;rw[List.getElem?_append_left h]
theorem Qhm (l:List Nat)(c:Nat):pvF (l ++ [c]) l.length=c:=by unfold pvF;simp
structure EI (n m c:Nat) (A B:Nat→Nat→F) (l:List Nat):Prop where
 span:Qbd n n m B A
 len:l.length≤n
 lt:∀i,i<l.length→pvF l i<c
 mono:∀i j,i<j→j<l.length→pvF l i<pvF l j
 one:∀i,i<l.length→B i (pvF l i)=1
 zero:∀i j,i<l.length→j<l.length→i≠j→B i (pvF l j)=0
 low:∀i,i<l.length→∀j,j<pvF l i→B i j=0
 rest:∀i,l.length≤i→i<n→∀j,j<c→B i j=0
theorem Qpm (n m:Nat)(A:Nat→Nat→F):∀c,EI n m c A (elS n A c).1 (elS n A c).2
 |0=>⟨Qbd.refl _ _ _,Nat.zero_le _,fun i h=>absurd h (Nat.not_lt_zero _),fun i j _ h=>absurd h (Nat.not_lt_zero _),fun i h=>absurd h (Nat.not_lt_zero _),fun i j h=>absurd h (Nat.not_lt_zero _),fun i h=>absurd h (Nat.not_lt_zero _),fun i _ _ j h=>absurd h (Nat.not_lt_zero _)⟩
 |c+1=>by
  have I:=Qpm n m A c;have am:=(Qgu n A c).1;have hp:=Qhk (elS n A c).1 c (n - (elS n A c).2.length) (elS n A c).2.length;have U:Qki (elS n A c).1 c n (elS n A c).2.length=QgP (elS n A c).1 c (n - (elS n A c).2.length) (elS n A c).2.length:=rfl;by_cases h:Qki (elS n A c).1 c n (elS n A c).2.length<n
  ·have V:(elS n A c).1 (Qki (elS n A c).1 c n (elS n A c).2.length) c≠0:=Qlk _ _ _ _ (by rw[←U];omega);rw[Qi9 rfl h];rw[←U]at hp;generalize Qki (elS n A c).1 c n (elS n A c).2.length=k at *;generalize (elS n A c).2=l at *;generalize (elS n A c).1=B at *;clear U;have Y:l.length<n:=by omega
   have aa:=I.rest k hp.1 h;have e1:∀t,t<l.length→∀j,QgD B n l.length k c t j=B t j+-(B t c)*(inv (B k c)*B k j):=fun t ht j=>by
    unfold QgD;have e3:Qbm (Qbt B l.length k) l.length (inv (B k c)) t=B t:=by
     rw[show Qbm (Qbt B l.length k) l.length (inv (B k c)) t=Qbt B l.length k t from if_neg (by omega)];unfold Qbt;rw[if_neg (by omega),if_neg (by omega)]
    have e4:Qbm (Qbt B l.length k) l.length (inv (B k c)) l.length=fun j=>inv (B k c)*B k j:=by
     rw[show Qbm (Qbt B l.length k) l.length (inv (B k c)) l.length=fun j=>inv (B k c)*Qbt B l.length k l.length j from if_pos rfl];unfold Qbt;rw[if_pos rfl]
    rw[show QbE (Qbm (Qbt B l.length k) l.length (inv (B k c))) l.length c n t=fun j=>Qbm (Qbt B l.length k) l.length (inv (B k c)) t j+-(Qbm (Qbt B l.length k) l.length (inv (B k c)) t c)*Qbm (Qbt B l.length k) l.length (inv (B k c)) l.length j from if_pos ⟨by omega,by omega⟩]
    (try dsimp only)
    rw[e3,e4]
   have e2:∀j,QgD B n l.length k c l.length j=inv (B k c)*B k j:=fun j=>by
    unfold QgD;rw[Qe8];rw[show Qbm (Qbt B l.length k) l.length (inv (B k c)) l.length=fun j=>inv (B k c)*Qbt B l.length k l.length j from if_pos rfl];unfold Qbt;rw[if_pos rfl]
   have e5:∀t,l.length<t→t<n→∀j,j<c+1→QgD B n l.length k c t j=0:=fun t X O j J=>by
    unfold QgD;have e3:∀j,j<c→Qbm (Qbt B l.length k) l.length (inv (B k c)) t j=0:=fun j J=>by
     rw[show Qbm (Qbt B l.length k) l.length (inv (B k c)) t=Qbt B l.length k t from if_neg (by omega)];unfold Qbt;rw[if_neg (by omega)];by_cases e:t=k
     ·rw[if_pos e];exact I.rest _ ρ Y j J
     ·rw[if_neg e];exact I.rest t (by omega) O j J
    have e4:Qbm (Qbt B l.length k) l.length (inv (B k c)) l.length=fun j=>inv (B k c)*B k j:=by
     rw[show Qbm (Qbt B l.length k) l.length (inv (B k c)) l.length=fun j=>inv (B k c)*Qbt B l.length k l.length j from if_pos rfl];unfold Qbt;rw[if_pos rfl]
    rw[show QbE (Qbm (Qbt B l.length k) l.length (inv (B k c))) l.length c n t=fun j=>Qbm (Qbt B l.length k) l.length (inv (B k c)) t j+-(Qbm (Qbt B l.length k) l.length (inv (B k c)) t c)*Qbm (Qbt B l.length k) l.length (inv (B k c)) l.length j from if_pos ⟨O,by omega⟩]
    (try dsimp only)
    rw[e4]
    (try dsimp only)
    by_cases e:j=c
    ·rw[e,QbH V,Qax,QaU]
    ·rw[e3 j (by omega),aa j (by omega),Qac,Qac,Qad]
   have ak:(l ++ [c]).length=l.length+1:=by simp
   have e6:∀t,t<l.length→∀j,j<c→QgD B n l.length k c t j=B t j:=fun t ht j J=>by rw[e1 t ht,aa j J,Qac,Qac,Qad]
   have e7:∀j,j<c→QgD B n l.length k c l.length j=0:=fun j J=>by rw[e2,aa j J,Qac]
   refine⟨(((Qh9 _ Y).trans (Qh8 _ (Qby V))).trans (Qjb _ Y h)).trans I.span,by dsimp only;omega,fun i T=>?_,fun i j af J=>?_,fun i T=>?_,fun i j T J af=>?_,fun i T j J=>?_,fun i X O j J=>?_⟩ <;> (try dsimp only at *) <;> rw[ak]at *
   ·by_cases e:i=l.length
    ·rw[e,Qhm];omega
    ·rw[Qfa (by omega)];have:=I.lt i (by omega);omega
   ·by_cases e:j=l.length
    ·rw[e,Qhm,Qfa (by omega)];exact I.lt i (by omega)
    ·rw[Qfa (by omega),Qfa (by omega)];exact I.mono i j af (by omega)
   ·by_cases e:i=l.length
    ·rw[e,Qhm,e2,QbH V]
    ·rw[Qfa (by omega),e6 i (by omega) _ (I.lt i (by omega))];exact I.one i (by omega)
   ·by_cases e:j=l.length
    ·rw[e,Qhm,e1 i (by omega),QbH V,Qax,QaU]
    ·rw[Qfa (by omega)];by_cases e8:i=l.length
     ·rw[e8];exact e7 _ (I.lt j (by omega))
     ·rw[e6 i (by omega) _ (I.lt j (by omega))];exact I.zero i j (by omega) (by omega) af
   ·by_cases e:i=l.length
    ·rw[e,Qhm]at J;rw[e];exact e7 j J
    ·rw[Qfa (by omega)]at J;have:=I.lt i (by omega);rw[e6 i (by omega) j (by omega)];exact I.low i (by omega) j J
   ·exact e5 i (by omega) O j J
  ·rw[show elS n A (c+1)=elS n A c from if_neg h];refine⟨I.span,I.len,fun i T=>by have:=I.lt i T;omega,I.mono,I.one,I.zero,I.low,fun i X O j J=>?_⟩;by_cases e5:j=c
   ·rw[e5];exact Qhl _ _ _ _ _ X (by rw[←U];omega)
   ·exact I.rest i X O j (by omega)
theorem Qgv (n m:Nat)(A:Nat→Nat→F):RR m (elS n A m).2.length (pvF (elS n A m).2) (elS n A m).1:=by
 have h:=Qpm n m A m;exact⟨h.lt,h.mono,h.one,h.zero,h.low⟩
theorem Qcz (n m:Nat)(A:Nat→Nat→F):Qbd (elS n A m).2.length n m (elS n A m).1 A:=by
 have h:=Qpm n m A m;refine⟨fun t I=>h.span.1 t (by have:=h.len;omega),fun t I=>?_⟩;obtain⟨c,T⟩:=h.span.2 t I;refine⟨c,fun j J=>?_⟩;rw[T j J];obtain⟨d,U⟩:∃d,n=(elS n A m).2.length+d:=⟨n - (elS n A m).2.length,by have:=h.len;omega⟩;have O:=h.rest;generalize (elS n A m).2.length=r at *;generalize (elS n A m).1=B at *;subst U;rw[Qco,Qag (n:=d) fun i V=>by rw[O (r+i) (by omega) (by omega) j J,Qac],Qad]
theorem Qmi {n n' m:Nat} {A B:Nat→Nat→F} (h:Qbd n n' m A B):(elS n A m).2.length=(elS n' B m).2.length∧∀i,i<(elS n A m).2.length→pvF (elS n A m).2 i=pvF (elS n' B m).2 i∧∀j,j<m→(elS n A m).1 i j=(elS n' B m).1 i j :=
 (Qgv n m A).uniq (Qgv n' m B) (((Qcz n m A).trans h).trans (Qcz n' m B).symm)
end elim
end Cw
