/- Plain law of layer 38: Gao's decoder, over coefficients. -/
import Derived.Test.YtogfekjbpcfgmaaGreatZtkGpoB
import Derived.Test.YtogfekjbpcfgmaaGreatZtkCodC
set_option maxRecDepth 100000
set_option maxHeartbeats 16000000
set_option linter.unusedVariables false
set_option linter.unusedSimpArgs false
namespace Cw
section
variable {R:Type} [CRing R]
theorem QfP {n m:Nat} (h:n≤m){f:Nat→R} (hz:∀i,n≤i→i<m→f i=0):Qat m f=Qat n f:=by
 obtain⟨d,rfl⟩:∃d,m=n+d:=⟨m - n,by omega⟩;rw[Qco,Qag (n:=d) fun i I=>hz (n+i) (by omega) (by omega),Qad]
theorem QmE:∀ (n:Nat) (f:Nat→R),Qat n f=Qat n fun i=>f (n - 1 - i)
 |0,_=>rfl
 |n+1,f=>by
  rw[QaE n (fun i=>f (n+1 - 1 - i)),Qaj,QmE n f,QdV]
  congr 1
  exact Qaa fun i _=>by rw[show n+1 - 1 - (i+1)=n - 1 - i by omega]
def LtD (f:Nat→R)(n:Nat):Prop:=∀t,n≤t→f t=0
theorem LtD.mono {f:Nat→R} {n m:Nat} (h:LtD f n)(I:n≤m):LtD f m:=fun t J=>h t (τ I J)
def vl (f:Nat→R)(n:Nat)(x:R):R:=Qat n fun t=>f t*pw x t
theorem Qgh {f:Nat→R} {n m:Nat} (h:LtD f n)(I:n≤m)(x:R):vl f m x=vl f n x:=QfP I fun i J _=>by rw[h i J,Qah]
theorem Qr0 {f g:Nat→R} {M:Nat} (I:LtD f M)(t:Nat):conv f g t=Qat M fun s=>if s≤t then f s*g (t - s) else 0:=by
 rw[←QeM f g I t];unfold Qb7;rw[if_neg (by omega),Qad]
theorem Qjs {f g:Nat→R} {M N:Nat} (I:LtD f M)(J:LtD g N)(x:R):vl (conv f g) (M+N) x=vl f M x*vl g N x:=by
 unfold vl;refine (Qaa (g:=fun t=>Qat M fun s=>(if s≤t then f s*g (t - s) else 0)*pw x t) fun t _=>by rw[Qr0 I t,Qar]).trans ?_;rw[QaX,←Qar];refine Qaa fun s T=>?_
 rw[show M+N=s+(M+N - s) by omega,Qco,Qag (n:=s) fun i U=>by rw[if_neg (by omega),Qah],Qai,←Qal];refine (QfP (n:=N) (by omega) fun i O _=>by rw[show s+i - s=i by omega,J i O,Qac];by_cases e:s≤s+i <;> simp only[e,if_true,if_false,Qah]).trans ?_;exact Qaa fun i _=>by rw[if_pos (by omega),show s+i - s=i by omega,QcL];ac_rfl
theorem QfQ (f g:Nat→R)(t:Nat):conv f g t=conv g f t:=by
 unfold conv
 rw[QmE];exact Qaa fun i I=>by rw[show t+1 - 1 - i=t - i by omega,show t - (t - i)=i by omega,Qb3]
theorem Qr1 (f g h:Nat→R)(t:Nat):conv f (fun s=>g s - h s) t=conv f g t - conv f h t:=by
 unfold conv
 rw[←QdX];exact Qaa fun i _=>QiP _ _ _
theorem QpT (f g:Nat→R)(h:∀s,g s=0)(t:Nat):conv f g t=0:=Qag fun i _=>by rw[h,Qac]
theorem Qdh {f g:Nat→R} {a b:Nat} (I:LtD f (a+1))(J:LtD g (b+1)):conv f g (a+b)=f a*g b:=by
 unfold conv
 rw[Qak (k:=a) (by omega) fun i O T=>?_,show a+b - a=b by omega];rcases Nat.lt_or_ge a i with h |h
 ·rw[I i h,Qah]
 ·rw[J (a+b - i) (by omega),Qac]
theorem LtD.conv {f g:Nat→R} {M N:Nat} (I:LtD f M)(J:LtD g N):LtD (conv f g) (M+N - 1):=fun t O=>Qb8 I J (by omega)
theorem LtD.sub {f g:Nat→R} {M N L:Nat} (I:LtD f M)(J:LtD g N)(O:M≤L)(T:N≤L):LtD (fun s=>f s - g s) L:=fun t U=>by
 show f t - g t=0
 rw[I t (by omega),J t (by omega),QaV]
theorem QpU (f g:Nat→R)(n:Nat)(x:R):vl (fun s=>f s - g s) n x=vl f n x - vl g n x:=by
 unfold vl;rw[←QdX];exact Qaa fun i _=>QdW _ _ _
end
section
variable {F:Type} [CField F]
theorem Qgi {f g:Nat→F} {a:Nat} (I:f a≠0)(J:LtD f (a+1))(h:∀t,a≤t→conv f g t=0):∀N,LtD g N→∀t,g t=0
 |0,hg,t=>hg t (Nat.zero_le _)
 |N+1,hg,t=>by
  have O:=h (a+N) (by omega);rw[Qdh J hg]at O;rcases Qbx O with e |e
  ·exact absurd e I
  ·exact Qgi I J h N (fun s U=>by
    by_cases T:s=N
    ·rw[T];exact e
    ·exact hg s (by omega)) t
theorem Qr2 {t P q r b:Nat→F} {a N:Nat} (O:t a≠0)(T:LtD t (a+1))(U:∀s,conv t P s=b s)(V:∀s,b s=conv q t s+r s)(X:LtD r a)(Y:LtD P N)(hq:LtD q N):(∀s,P s=q s)∧∀s,r s=0:=by
 have I:∀s,conv t (fun s=>P s - q s) s=r s:=fun s=>by
  rw[Qr1,U,V,QfQ q t,QdV,QaI]
 have J:=Qgi (g:=fun s=>P s - q s) O T (fun s hs=>by rw[I,X s hs]) N (Y.sub hq ρ ρ);exact⟨fun s=>Qbg (J s),fun s=>by rw[←I,QpT _ _ J]⟩
theorem Qff (p:Nat→Bool)(n:Nat):((List.range n).filter p).length+((List.range n).filter fun i=>!p i).length=n:=by
 induction n with
 |zero=>rfl
 |succ n ih =>
  rw[List.range_succ,List.filter_append,List.filter_append,List.length_append,List.length_append];have e:([n].filter p).length+([n].filter fun i=>!p i).length=1:=by cases h:p n <;> simp[h]
  omega
theorem QfR {n L:Nat} {X:Nat→F} (O:∀i j,i<n→j<n→X i=X j→i=j){f:Nat→F} (T:LtD f L)(p:Nat→Bool)(U:L≤((List.range n).filter p).length)(h:∀i,i<n→p i=true→vl f L (X i)=0)(s:Nat):f s=0:=by
 by_cases hs:s<L
 ·refine Qex (((List.range n).filter p).map X) ((List.range L).map f) (by rw[List.length_map,List.length_map,List.length_range];exact U) ?_ ?_ (f s) (List.mem_map.2 ⟨s,List.mem_range.2 hs,rfl⟩)
  ·refine List.pairwise_map.2 (List.Pairwise.imp_of_mem ?_ (List.Pairwise.filter _ (List.nodup_range (n:=n))));intro x y I Y aa e;exact aa (O x y (List.mem_range.1 (List.mem_filter.1 I).1) (List.mem_range.1 (List.mem_filter.1 Y).1) e)
  ·intro x I;obtain⟨i,V,rfl⟩:=List.mem_map.1 I;have J:=List.mem_filter.1 V;rw[Qf4];exact h i (List.mem_range.1 J.1) J.2
 ·exact T s (by omega)
theorem Qui {n k dt B:Nat} {X Y:Nat→F} (V:∀i j,i<n→j<n→X i=X j→i=j){P t b:Nat→F} (J:LtD P k)(O:LtD t (dt+1))(h2:2*dt+k≤n)(T:LtD b B)(hB:2*B≤n+k+1)
  (hv:∀i,i<n→vl t (dt+1) (X i)*Y i=vl b B (X i)) (p:Nat→Bool) (hp:∀i,i<n→p i=true→vl P k (X i)=Y i) (hE:2*((List.range n).filter fun i=>!p i).length+k≤n) (s:Nat):conv t P s=b s:=by
 obtain⟨L,hL⟩:=ε (max (dt+k) B);have I:LtD (conv t P) (dt+k):=(O.conv J).mono (by omega);have hN:LtD (fun s=>conv t P s - b s) L:=I.sub T (by omega) (by omega);have hf:=Qff p n;refine Qbg (QfR V hN p (by omega) (fun i U ac=>?_) s);rw[QpU,Qgh T (by omega),←hv i U,Qgh I (by omega),←Qgh I (show dt+k≤dt+1+k by omega),Qjs O J,hp i U ac,QaV]
end
end Cw
namespace Go.Proofs
open Go.RowKit Cw
section
open Cw.CField (inv)
theorem Qgj (D:Desc)(l:List Int)(u:R D){N:Nat} (I:l.length≤N):QaW D l u=Qat N fun i=>cfR D l i*pw u i:=by
 obtain⟨d,rfl⟩:∃d,N=l.length+d:=⟨N - l.length,by omega⟩;unfold QaW;rw[Qco,Qag (n:=d) fun i _=>by rw[Qao D (by omega),Qah],Qad];rfl
theorem QkF (D:Desc)(p:List Int)(a:Int)(q:List Int)(u:R D):QaW D (QeC D p a q) u=QaW D p u+eli D a*QaW D q u:=by
 have I:=Qmy D p a q;rw[Qgj D _ u I,Qgj D p u (Nat.le_max_left p.length q.length),Qgj D q u (Nat.le_max_right p.length q.length),←Qal,←Qbc,Qku];exact Qaa fun i _=>by unfold Qjm;rw[Qbw,Qa6]
theorem QfS (D:Desc)(p q:List Int):(QbL D p q).length≤p.length+q.length - 1:=by
 have I:=Qa4 D p;have J:=Qa4 D q;unfold QbL;by_cases h:(QaD D p).length=0∨(QaD D q).length=0
 ·rw[if_pos h];exact Nat.zero_le _
 ·rw[if_neg h,Qab];omega
theorem Qr3 (D:Desc)(p:List Int)(x u:R D):QaW D (QbL D p [ci (-x),1]) u=QaW D p u*(u - x):=by
 have J:=QfS D p [ci (-x),1];have I:∀s,cfR D [ci (-x),1] s=if s=0 then -x else if s=1 then 1 else 0:=fun s=>by
  unfold cfR
  match s with
  |0=>rw[if_pos rfl];exact Qam _
  |1=>rw[if_neg (by omega),if_pos rfl];exact QcQ
  |s+2=>rw[if_neg (by omega),if_neg (by omega)];exact QbC
 have O:∀t,conv (cfR D p) (cfR D [ci (-x),1]) t=(if t=0 then 0 else cfR D p (t - 1))+cfR D p t*-x:=fun t=>by
  unfold conv
  cases t with
  |zero=>rw[Qaj,QaG,Nat.sub_self,I,if_pos rfl,if_pos rfl]
  |succ t =>
   rw[Qaj,Qaj,Qag (n:=t) (fun s T=>by rw[I,if_neg (by omega),if_neg (by omega),Qac]),Qai,Nat.sub_self,I 0,if_pos rfl,show t+1 - t=1 by omega,I 1,if_neg (by omega),if_pos rfl,Qax,if_neg (by omega)];rfl
 rw[Qgj D _ u (N:=p.length+1) (by simpa using J),QdQ,Qaa fun i _=>by rw[O i,Qbw]];rw[Qbc,QaE,if_pos rfl,Qah,Qai,Qgj D p u ρ,Qaj,Qao D ρ,Qah,Qah,Qad,QbV,QaQ,←Qar,←Qar]
 congr 1
 ·exact Qaa fun i _=>by rw[if_neg (by omega),Nat.add_sub_cancel,Qbi,Qa6]
 ·exact Qaa fun i _=>by rw[Qa6,Qa6,Qb3 (-x)]
theorem QpV (D:Desc)(p:List Int)(a:Int)(q:List Int):elB D (QeC D p a q)=true:=QaJ.2 fun j I=>by
 unfold QeC Qep at *;rw[Qab]at I;rw[Qas _ I];exact⟨Qa8 _,Qeu _⟩
def LI (D:Desc)(X I:Nat→R D)(k:Nat)(l:List Int):Prop:=l.length≤k∧elB D l=true∧∀i,i<k→QaW D l (X i)=I i
def ZI (D:Desc)(X:Nat→R D)(k:Nat)(z:List Int):Prop:=z.length≤k+1∧∀u,QaW D z u=Qk2 k fun i=>u - X i
theorem LI.zero (D:Desc)(X I:Nat→R D):LI D X I 0 []:=⟨Nat.le_refl _,QaJ.2 fun _ J=>absurd J (Nat.not_lt_zero _),fun _ O=>absurd O (Nat.not_lt_zero _)⟩
theorem ZI.zero (D:Desc)(X:Nat→R D):ZI D X 0 [1]:=⟨Nat.le_refl _,fun u=>by
 rw[Qgj D [1] u (N:=1) ρ,Qaj,QaG,Qai,Qm9]
 show eli D 1*pw u 0=1
 rw[QcQ,Qav];rfl⟩
theorem ZI.step {D:Desc} {X:Nat→R D} {k:Nat} {z:List Int} (h:ZI D X k z):ZI D X (k+1) (QbL D z [ci (-(X k)),1]):=⟨by
 have I:=QfS D z [ci (-(X k)),1];have J:=h.1;simp at I;omega,fun u=>by rw[Qr3,h.2,Qih]⟩
theorem ZI.ne {F:FD} {X:Nat→R F.z} {k:Nat} {z:List Int} (h:ZI F.z X k z)(I:∀i,i<k→X k≠X i):QaW F.z z (X k)≠0:=by
 rw[h.2];exact QiS fun i J e=>I i J (Qbg e)
theorem LI.step {F:FD} {X I:Nat→R F.z} {k:Nat} {l z:List Int} (h:LI F.z X I k l)(hz:ZI F.z X k z)(J:∀i,i<k→X k≠X i){a:Int} (O:eli F.z a=(I k - QaW F.z l (X k))*inv (QaW F.z z (X k))):LI F.z X I (k+1) (QeC F.z l a z):=by
 refine⟨?_,QpV _ _ _ _,fun i Y=>?_⟩
 ·have T:=Qmy F.z l a z;have U:=h.1;have V:=hz.1;omega
 ·rw[QkF];by_cases e:i=k
  ·rw[e,O,Qa6,QbH (hz.ne J),Qax,QbV,Qoz,QaU,Qad]
  ·rw[hz.2 (X i),QiQ (R:=R F.z) (f:=fun t=>X i - X t) (i:=i) (by omega) (QaV (X i)),Qac,Qad];exact h.2.2 i (by omega)
end
section
open Cw.CField (inv)
theorem QbQ (D:Desc)(p:List Int):LtD (cfR D p) p.length:=fun _ h=>Qao D h
theorem QbI (D:Desc)(p:List Int)(x:R D){N:Nat} (h:p.length≤N):QaW D p x=vl (cfR D p) N x:=(QpH D p x h).symm
theorem Quj {D:Desc} {p q:List Int} (hp:QaD D p=p)(I:QaD D q=q)(h:∀s,cfR D p s=cfR D q s):p=q:=by
 have e:∀ {l:List Int},QaD D l=l→∀N,l.length≤N→l=Qep (cfI D l) N:=fun {l} J N O=>by
  rw[Qey O fun i T _=>by unfold cfI;rw[Qao D T,QaF]];exact J.symm
 exact (e hp (max p.length q.length) (by omega)).trans ((QeL fun i _=>by unfold cfI;rw[h]).trans (e I (max p.length q.length) (by omega)).symm)
theorem Quk {D:Desc} {p:List Int} (I:QaD D p=p){n:Nat} (J:cfR D p n≠0)(O:LtD (cfR D p) (n+1)):p.length=n+1:=by
 have T:=Qdg I O;have U:n<p.length:=Classical.byContradiction fun h=>J (Qao D (by omega))
 omega
theorem Qjt (D:Desc)(s:Nat):cfR D [1] s=if s=0 then 1 else 0:=by
 cases s with
 |zero=>rw[if_pos rfl];exact QcQ
 |succ s=>rw[if_neg (by omega)];exact Qao D (by simp)
theorem QmF (D:Desc)(g:Nat→R D)(t:Nat):conv (cfR D [1]) g t=g t:=by
 unfold conv
 rw[Qak (k:=0) (by omega) fun i _ I=>by rw[Qjt,if_neg I,Qah],Qjt,if_pos rfl,Qav,Nat.sub_zero]
structure QmG (D:Desc) (p q quo rem:List Int):Prop where
 cq:QaD D quo=quo
 cr:QaD D rem=rem
 eq:∀s,cfR D p s=conv (cfR D quo) (cfR D q) s+cfR D rem s
 lt:rem.length<(QaD D q).length
theorem QmG.val {D:Desc} {p q I J:List Int} (h:QmG D p q I J)(x:R D):QaW D p x=QaW D I x*QaW D q x+QaW D J x:=by
 obtain⟨N,T⟩:=ε (p.length+(I.length+q.length)+J.length);have O:LtD (conv (cfR D I) (cfR D q)) (I.length+q.length):=((QbQ D I).conv (QbQ D q)).mono (by omega);rw[QbI D p x (N:=N) (by omega),QbI D J x (N:=N) (by omega),QbI D I x ρ,QbI D q x ρ,←Qjs (QbQ D I) (QbQ D q),←Qgh O (show _≤N by omega)];unfold vl;rw[←Qbc];exact Qaa fun i _=>by rw[h.eq,Qbw]
theorem QmG.deg {F:FD} {p q I J:List Int} (h:QmG F.z p q I J)(hp:QaD F.z p=p)(U:QaD F.z q=q)(h0:1≤q.length)(hl:q.length≤p.length):I.length+q.length=p.length+1:=by
 obtain⟨b,O⟩:∃b,q.length=b+1:=⟨q.length - 1,by omega⟩;obtain⟨a,ha⟩:∃a,p.length=a+1:=⟨p.length - 1,by omega⟩;have X:=h.lt;rw[U]at X;have V:=Qa1 hp ha;have Y:=Qa1 U O;by_cases hz:I.length=0
 ·exfalso;apply V;rw[h.eq,Qao F.z (p:=J) (by omega),Qad];exact Qb8 (M:=0) (N:=b+1) (fun t _=>Qao F.z (by omega)) (fun t ht=>Qao F.z (by omega)) (by omega)
 obtain⟨c,T⟩:∃c,I.length=c+1:=⟨I.length - 1,by omega⟩;have lc:=Qa1 h.cq T;have h1:cfR F.z p (c+b)≠0:=by
  rw[h.eq,Qao F.z (p:=J) (by omega),Qad,Qdh (T ▸ QbQ F.z I) (O ▸ QbQ F.z q)];exact QaS lc Y
 have h2:c+b≤a:=Classical.byContradiction fun e=>h1 (Qao F.z (by omega))
 have h3:a≤c+b:=Classical.byContradiction fun e=>V (by
  rw[h.eq,Qao F.z (p:=J) (by omega),Qad];exact Qb8 (T ▸ QbQ F.z I) (O ▸ QbQ F.z q) (by omega))
 omega
theorem QiA (D:Desc)(p q:List Int)(x:R D):QaW D (QbL D p q) x=QaW D p x*QaW D q x:=by
 have I:=QfS D p q;rw[QbI D _ x (N:=p.length+q.length) (by omega),QdQ,Qjs (QbQ D p) (QbQ D q),QbI D p x ρ,QbI D q x ρ]
theorem QnY (D:Desc)(p:List Int)(a:Int)(q:List Int):QaD D (QeC D p a q)=QeC D p a q:=Qdv _ _ fun i h=>by unfold Qjm;rw[Qao D (by omega),Qao D (by omega),Qac,Qad]
structure EI (F:FD) (n k:Nat) (X Y:Nat→R F.z) (a b old t:List Int):Prop where
 ca:QaD F.z a=a
 cb:QaD F.z b=b
 ct:QaD F.z t=t
 lab:b.length<a.length
 lot:old.length<t.length
 sum:t.length+a.length=n+2
 bd:n+k+2≤2*a.length
 va:∀i,i<n→QaW F.z old (X i)*Y i=QaW F.z a (X i)
 vb:∀i,i<n→QaW F.z t (X i)*Y i=QaW F.z b (X i)
def QgE (D:Desc)(I q t:List Int):List Int:=QeC D I (ci (-(1:R D))) (QbL D (QbL D [1] q) t)
theorem QkG (D:Desc)(I q t:List Int)(s:Nat):cfR D (QgE D I q t) s=cfR D I s - conv (cfR D q) (cfR D t) s:=by
 unfold QgE;rw[Qku];unfold Qjm;rw[Qam,QdQ,QdQ,Qbb,Qav,QbV,show conv (cfR D [1]) (cfR D q)=cfR D q from funext fun s=>QmF D _ s]
theorem QmH (D:Desc)(x:R D):QaW D [1] x=1:=by
 rw[QbI D [1] x (N:=1) (by simp)];unfold vl;rw[Qaj,QaG,Qai,Qjt,if_pos rfl,Qav];rfl
theorem QnZ (D:Desc)(I q t:List Int)(x:R D):QaW D (QgE D I q t) x=QaW D I x - QaW D q x*QaW D t x:=by
 unfold QgE;rw[QkF,Qam,QiA,QiA,QmH,Qav,Qbb,Qav,QbV]
theorem EI.step {F:FD} {n k:Nat} {X Y:Nat→R F.z} {a b I t q r:List Int} (h:EI F n k X Y a b I t)(hb:n+k+2≤2*b.length)(J:QmG F.z a b q r):EI F n k X Y b r t (QgE F.z I q t):=by
 have U:=J.lt;rw[h.cb]at U;have ae:=J.deg h.ca h.cb (by omega) (by have:=h.lab;omega);have h1:=h.lab;have h2:=h.lot;have h3:=h.sum;obtain⟨c,O⟩:∃c,q.length=c+1:=⟨q.length - 1,by omega⟩;obtain⟨dt,T⟩:∃dt,t.length=dt+1:=⟨t.length - 1,by omega⟩;have lc:=Qa1 J.cq O;have lt:=Qa1 h.ct T;have V:QaD F.z (QgE F.z I q t)=QgE F.z I q t:=QnY _ _ _ _;have hl:(QgE F.z I q t).length=c+dt+1:=Quk V (by
  rw[QkG,Qao F.z (p:=I) (by omega),Qdh (O ▸ QbQ F.z q) (T ▸ QbQ F.z t),QcK];intro e;exact QaS lc lt (by rw[←Qg0 (cfR F.z q c*cfR F.z t dt),e,QcT])) fun s hs=>by
   rw[QkG,Qao F.z (p:=I) (by omega),Qb8 (O ▸ QbQ F.z q) (T ▸ QbQ F.z t) (by omega),Qa3]
 refine⟨h.cb,J.cr,V,U,by omega,by omega,hb,h.vb,fun i hi=>?_⟩;rw[QnZ,QdW,Qa6,h.vb i hi,h.va i hi,J.val,QdV,QaI]
def wr (D:Desc)(n:Nat)(X Y:Nat→R D)(m:List Int):Nat:=((List.range n).filter fun i=>ci (QaW D m (X i)) !=ci (Y i)).length
theorem Qr4 {D:Desc} {n:Nat} {X Y:Nat→R D} {m I:List Int} (h:∀x,QaW D m x=QaW D I x):wr D n X Y m=wr D n X Y I:=by
 unfold wr
 congr 2
 funext i
 rw[h]
def Qr5 (D:Desc)(n k:Nat)(X Y:Nat→R D)(m:List Int):Prop:=QaD D m=m∧m.length≤k∧2*wr D n X Y m+k≤n
def QpW (D:Desc)(n k:Nat)(X Y:Nat→R D):Prop:=∀P:List Int,P.length≤k→n<2*wr D n X Y P+k
theorem EI.find {F:FD} {n k:Nat} {X Y:Nat→R F.z} (V:∀i j,i<n→j<n→X i=X j→i=j){a b aa t m r:List Int} (h:EI F n k X Y a b aa t)(hb:2*b.length≤n+k+1)(I:QmG F.z b t m r){P:List Int} (O:P.length≤k)(hw:2*wr F.z n X Y P+k≤n):r=[]∧m.length≤k∧∀x,QaW F.z m x=QaW F.z P x:=by
 have h1:=h.lab;have h2:=h.lot;have h3:=h.sum;have h4:=h.bd;obtain⟨dt,J⟩:∃dt,t.length=dt+1:=⟨t.length - 1,by omega⟩;have ad:=I.lt;rw[h.ct]at ad;have hk:=Qui (n:=n) (k:=k) (dt:=dt) (B:=b.length) V (P:=cfR F.z P) (t:=cfR F.z t) (b:=cfR F.z b) ((QbQ F.z P).mono O) (J ▸ QbQ F.z t) (by omega) (QbQ F.z b) hb
  (fun i U=>by rw[←QbI F.z t (X i) (Nat.le_of_eq J),←QbI F.z b (X i) ρ];exact h.vb i U)
  (fun i=>ci (QaW F.z P (X i))==ci (Y i)) (fun i U hp=>by rw[←QbI F.z P (X i) O];exact Qeh (by simpa using hp)) hw
 obtain⟨T,e2⟩:=Qr2 (a:=dt) (N:=max P.length m.length) (Qa1 h.ct J) (J ▸ QbQ F.z t) hk I.eq (fun s hs=>Qao F.z (by omega)) ((QbQ F.z P).mono (by omega)) ((QbQ F.z m).mono (by omega));have al:r.length≤0:=Qdg I.cr fun s _=>e2 s
 refine⟨List.eq_nil_of_length_eq_zero (by omega),Qdg I.cq fun s hs=>by rw[←T];exact Qao F.z (by omega),fun x=>?_⟩;rw[QbI F.z m x (N:=max P.length m.length) (by omega),QbI F.z P x (N:=max P.length m.length) (by omega)];unfold vl;exact Qaa fun i _=>by rw[T]
end
end Go.Proofs
namespace Cw
section
variable {F:Type} [CField F] [DecidableEq F]
end
end Cw
namespace Go.Proofs
open Go.RowKit Cw
section
def QfY (a:List Int):Nat→List Nat
 |0=>[]
 |k+1=>if (k:Int)∈a then QfY a k else QfY a k ++ [k]
def Qen (l a:List Int)(k:Nat):List Int:=(QfY a k).map fun i=>l[i]?.getD 0
theorem QfT {a:List Int} {k:Nat} (h:(k:Int)∈a):QfY a (k+1)=QfY a k:=if_pos h
theorem QhH {a:List Int} {k:Nat} (h:¬ (k:Int)∈a):QfY a (k+1)=QfY a k ++ [k]:=if_neg h
theorem QmI {l a:List Int} {k:Nat} (h:(k:Int)∈a):Qen l a (k+1)=Qen l a k:=by unfold Qen;rw[QfT h]
theorem QpX {l a:List Int} {k:Nat} (h:¬ (k:Int)∈a):Qen l a (k+1)=Qen l a k ++ [l[k]?.getD 0]:=by unfold Qen;rw[QhH h,List.map_append];rfl
theorem Qed (l a:List Int)(k:Nat):(Qen l a k).length=(QfY a k).length:=List.length_map _
theorem Qju (a:List Int):∀k,(QfY a k).length≤k
 |0=>Nat.le_refl _
 |k+1=>by
  have I:=Qju a k;by_cases h:(k:Int)∈a
  ·rw[QfT h];omega
  ·rw[QhH h,List.length_append];simp;omega
theorem QgT {a:List Int} {i:Nat}:∀ {k:Nat},i∈QfY a k↔i<k∧¬ (i:Int)∈a
 |0=>⟨fun h=>(by cases h),fun h=>absurd h.1 (Nat.not_lt_zero _)⟩
 |k+1=>by
  have O:=QgT (a:=a) (i:=i) (k:=k);by_cases h:(k:Int)∈a
  ·rw[QfT h,O];constructor
   ·rintro⟨J,I⟩;exact⟨by omega,I⟩
   ·rintro⟨J,I⟩;refine⟨?_,I⟩;rcases Nat.lt_or_ge i k with T |T
    ·exact T
    ·obtain rfl:i=k:=by omega
     exact absurd h I
  ·rw[QhH h,List.mem_append,O,List.mem_singleton];constructor
   ·rintro (⟨J,I⟩ |rfl)
    ·exact⟨by omega,I⟩
    ·exact⟨by omega,h⟩
   ·rintro⟨J,I⟩;by_cases e:i=k
    ·exact .inr e
    ·exact .inl ⟨by omega,I⟩
theorem Qgk (a:List Int):∀k,(QfY a k).Nodup
 |0=>List.nodup_nil
 |k+1=>by
  have I:=Qgk a k;by_cases h:(k:Int)∈a
  ·rw[QfT h];exact I
  ·rw[QhH h,List.nodup_append];refine⟨I,by simp,fun x J y O e=>?_⟩;have T:=(QgT.1 J).1;have U:y=k:=by simpa using O
   omega
theorem Qjv {a:List Int} {k j:Nat} (I:j<(QfY a k).length):(QfY a k)[j]?.getD 0<k:=by
 rw[List.getElem?_eq_getElem I,Option.getD_some];exact (QgT.1 (List.getElem_mem I)).1
theorem QgU {l a:List Int} {k j:Nat} (I:j<(QfY a k).length):(Qen l a k)[j]?.getD 0=l[(QfY a k)[j]?.getD 0]?.getD 0:=by
 unfold Qen;rw[List.getElem?_map,List.getElem?_eq_getElem I];rfl
end
section
open Cw.CField (inv)
theorem Qul (U:List Nat)(p:Nat→Bool):((List.range U.length).filter fun j=>p (U[j]?.getD 0)).length=(U.filter p).length:=by
 have e:U=(List.range U.length).map fun j=>U[j]?.getD 0:=by
  apply List.ext_getElem
  ·simp
  ·intro i I J;simp[I]
 conv=>rhs;rw[e]
 rw[List.filter_map,List.length_map];rfl
def Qbu (c w er:List Int):Nat→List Int
 |0=>[]
 |k+1=>if (k:Int)∈er then Qbu c w er k else if c[k]?.getD 0=w[k]?.getD 0 then Qbu c w er k else Qbu c w er k ++ [(k:Int)]
theorem Qfg {c w er:List Int} {k:Nat} (h:(k:Int)∈er):Qbu c w er (k+1)=Qbu c w er k:=if_pos h
theorem Qgl {c w er:List Int} {k:Nat} (h:c[k]?.getD 0=w[k]?.getD 0):Qbu c w er (k+1)=Qbu c w er k:=by
 by_cases I:(k:Int)∈er
 ·exact Qfg I
 ·show (if (k:Int)∈er then _ else _)=_
  rw[if_neg I,if_pos h]
theorem Qgm {c w er:List Int} {k:Nat} (I:¬ (k:Int)∈er)(h:c[k]?.getD 0≠w[k]?.getD 0):Qbu c w er (k+1)=Qbu c w er k ++ [(k:Int)]:=by
 show (if (k:Int)∈er then _ else _)=_
 rw[if_neg I,if_neg h]
theorem QhI (c w er:List Int):∀k,(Qbu c w er k).length≤k
 |0=>Nat.le_refl _
 |k+1=>by
  have O:=QhI c w er k;by_cases I:(k:Int)∈er
  ·rw[Qfg I];omega
  ·by_cases J:c[k]?.getD 0=w[k]?.getD 0
   ·rw[Qgl J];omega
   ·rw[Qgm I J,List.length_append,List.length_singleton];omega
theorem QiB {c w er:List Int} {n:Nat} (p:Nat→Bool)(h:∀i,i<n→(p i=true↔c[i]?.getD 0≠w[i]?.getD 0)):∀k,k≤n→(Qbu c w er k).length=((QfY er k).filter p).length
 |0,_=>rfl
 |k+1,hk=>by
  have O:=QiB (er:=er) p h k (by omega);by_cases I:(k:Int)∈er
  ·rw[Qfg I,QfT I];exact O
  ·rw[QhH I,List.filter_append,List.length_append];by_cases J:c[k]?.getD 0=w[k]?.getD 0
   ·have T:p k=false:=Bool.eq_false_iff.2 fun e=>(h k (by omega)).1 e J
    rw[Qgl J,O];simp[T]
   ·have T:p k=true:=(h k (by omega)).2 J;rw[Qgm I J,List.length_append,O];simp[T]
theorem QeT {er:List Int} {n:Nat} (O:∀x∈er,0≤x∧x<(n:Int))(T:er.Nodup):(QfY er n).length+er.length=n:=by
 have Y:=Qff (fun i:Nat=>decide ((i:Int)∈er)) n;have e1:((List.range n).filter fun i:Nat=>!decide ((i:Int)∈er)).length=(QfY er n).length:=by
  refine ((List.perm_ext_iff_of_nodup (List.Pairwise.filter _ List.nodup_range) (Qgk er n)).2 fun i=>?_).length_eq;rw[QgT,List.mem_filter,List.mem_range];simp
 have e2:((List.range n).filter fun i:Nat=>decide ((i:Int)∈er)).length=er.length:=by
  have hp:List.Perm (((List.range n).filter fun i:Nat=>decide ((i:Int)∈er)).map fun i:Nat=>(i:Int)) er:=by
   refine (List.perm_ext_iff_of_nodup ?_ T).2 fun x=>?_
   ·refine List.pairwise_map.2 (List.Pairwise.imp_of_mem ?_ (List.Pairwise.filter _ (List.nodup_range (n:=n))));intro x y _ _ X e;exact X (by omega)
   ·rw[List.mem_map];constructor
    ·rintro⟨i,V,rfl⟩;exact of_decide_eq_true (List.mem_filter.1 V).2
    ·intro J;obtain⟨U,h4⟩:=O x J;exact⟨x.toNat,List.mem_filter.2 ⟨List.mem_range.2 (by omega),decide_eq_true (show ((x.toNat:Nat):Int)∈er by rw[Int.toNat_of_nonneg U];exact J)⟩,by omega⟩
  have I:=hp.length_eq;rw[List.length_map]at I;exact I
 omega
noncomputable def ysV (D:FD)(mul w:List Int)(i:Nat):Int:=ci (eli D.z (w[i]?.getD 0)*inv (eli D.z (mul[i]?.getD 0)))
noncomputable def ysA (D:FD)(n:Nat)(mul w:List Int):List Int:=lst n (ysV D mul w)
section
variable {F:FD} {kn:Nat} {pts mul w er:List Int}
theorem Qs9 {i:Nat} (I:eli F.z (mul[i]?.getD 0)≠0)(J:0≤w[i]?.getD 0∧w[i]?.getD 0<(F.q:Int))(u:R F.z):u=eli F.z (ysV F mul w i)↔ci (eli F.z (mul[i]?.getD 0)*u)=w[i]?.getD 0:=by
 unfold ysV;rw[Qam];constructor
 ·rintro rfl;rw[QgZ,Qd0 I,Qax,Qci J]
 ·intro h;have O:eli F.z (w[i]?.getD 0)=eli F.z (mul[i]?.getD 0)*u:=by rw[←h,Qam]
  rw[O,Qb3,←Qa6,QbH I,Qav]
noncomputable def xsP (F:FD)(pts er:List Int):Nat→R F.z:=fun j=>eli F.z ((Qen pts er pts.length)[j]?.getD 0)
noncomputable def ysP (F:FD)(pts mul w er:List Int):Nat→R F.z:=fun j=>eli F.z ((Qen (ysA F pts.length mul w) er pts.length)[j]?.getD 0)
theorem QpY (hz:gchkD F.z kn pts mul=0):∀i j,i<(QfY er pts.length).length→j<(QfY er pts.length).length→xsP F pts er i=xsP F pts er j→i=j:=by
 obtain⟨-,-,-,hp,-,T,-,-,-⟩:=Qbn hz;intro i j I J e;unfold xsP at e;rw[QgU I,QgU J]at e;have O:=QlE hp T _ _ (Qjv I) (Qjv J) e;rw[List.getElem?_eq_getElem I,List.getElem?_eq_getElem J]at O;exact (List.getElem_inj (Qgk er pts.length)).1 O
theorem QmJ (hz:gchkD F.z kn pts mul=0)(X:w.length=pts.length)(O:elB F.z w=true)(m:List Int):wr F.z (QfY er pts.length).length (xsP F pts er) (ysP F pts mul w er) m=(Qbu (Qa5 F.z pts mul m) w er pts.length).length:=by
 obtain⟨-,-,Y,-,V,-,h0,-,-⟩:=Qbn hz;have T:∀i,i<pts.length→eli F.z (mul[i]?.getD 0)≠0:=fun i I=>QhC (QaJ.1 V i (by omega)) fun e=>h0 (e ▸ Qcm (by omega))
 obtain⟨p,hp⟩:=ε (fun i=>ci (QaW F.z m (eli F.z (pts[i]?.getD 0))) !=ci (eli F.z (ysV F mul w i)):Nat→Bool)
 rw[QiB p (fun i I=>?_) _ ρ,←Qul]
 ·unfold wr
  congr 1
  refine List.filter_congr fun j J=>?_
  rw[List.mem_range]at J;have U:=Qjv J;rw[hp];unfold xsP ysP;rw[QgU J,QgU J];unfold ysA;rw[Qas _ U]
 ·rw[hp];unfold Qa5;rw[Qas _ I,bne_iff_ne];refine not_congr ⟨fun h=>(Qs9 (T i I) (QaJ.1 O i (by omega)) _).1 (Qeh h),fun h=>?_⟩;rw[(Qs9 (T i I) (QaJ.1 O i (by omega)) _).2 h]
def QfU (D:Desc)(kn:Nat)(pts mul w er I:List Int):Prop:=I.length=kn∧elB D I=true∧2*(Qbu (Qa5 D pts mul I) w er pts.length).length+er.length+kn≤pts.length
def QgF (D:Desc)(kn:Nat)(pts mul w er:List Int):Prop:=∀I:List Int,I.length≤kn→pts.length<2*(Qbu (Qa5 D pts mul I) w er pts.length).length+er.length+kn
theorem Qv2 (hz:gchkD F.z kn pts mul=0)(I:w.length=pts.length)(J:elB F.z w=true)(O:∀x∈er,0≤x∧x<(pts.length:Int))(T:er.Nodup)(h:QpW F.z (QfY er pts.length).length kn (xsP F pts er) (ysP F pts mul w er)):QgF F.z kn pts mul w er:=fun V X=>by
 have U:=h V X;rw[QmJ hz I J]at U;have:=QeT O T;omega
def Qn0 (m:List Int)(kn:Nat):List Int:=m ++ List.replicate (kn - m.length) 0
theorem Qr6 (D:Desc)(m:List Int)(kn:Nat)(s:Nat):cfR D (Qn0 m kn) s=cfR D m s:=by
 unfold cfR Qn0;by_cases h:s<m.length
 ·rw[List.getElem?_append_left h]
 ·rw[List.getElem?_append_right (by omega),List.getElem?_eq_none (show m.length≤s by omega),List.getElem?_replicate];by_cases I:s - m.length<kn - m.length
  ·rw[if_pos I];rfl
  ·rw[if_neg I]
theorem Qfh {m:List Int} {kn:Nat} (h:m.length≤kn):(Qn0 m kn).length=kn:=by unfold Qn0;rw[List.length_append,List.length_replicate];omega
theorem QpZ (D:Desc){m:List Int} {kn:Nat} (h:m.length≤kn)(x:R D):QaW D (Qn0 m kn) x=QaW D m x:=by
 rw[QbI D (Qn0 m kn) x (N:=kn) (by rw[Qfh h];omega),QbI D m x h];exact Qaa fun i _=>by rw[Qr6]
theorem QhJ (D:Desc)(pts mul:List Int){m I:List Int} (h:∀x,QaW D m x=QaW D I x):Qa5 D pts mul m=Qa5 D pts mul I:=by unfold Qa5;exact Qay fun i _=>by rw[h]
theorem QmK {D:Desc} {m:List Int} {kn:Nat} (h:elB D m=true):elB D (Qn0 m kn)=true:=QaJ.2 fun j O=>by
 by_cases e:j<m.length
 ·unfold Qn0;rw[List.getElem?_append_left e];exact QaJ.1 h j e
 ·have J:(Qn0 m kn)[j]?.getD 0=0:=by
   unfold Qn0;rw[List.getElem?_append_right (by omega),List.getElem?_replicate];by_cases I:j - m.length<kn - m.length
   ·rw[if_pos I];rfl
   ·rw[if_neg I];rfl
  rw[J];have:=D.q2;exact⟨Int.le_refl _,by show (0:Int)<_;omega⟩
theorem Qp0 {D:Desc} {m:List Int} (h:QaD D m=m):elB D m=true:=QaJ.2 fun j I=>by
 rw[←h]at I ⊢;unfold QaD at I ⊢;rw[QaH]at I;unfold Qep;rw[Qas _ I];exact⟨Qa8 _,Qeu _⟩
theorem Qv3 (hz:gchkD F.z kn pts mul=0)(J:w.length=pts.length)(O:elB F.z w=true)(T:∀x∈er,0≤x∧x<(pts.length:Int))(U:er.Nodup){m:List Int} (h:Qr5 F.z (QfY er pts.length).length kn (xsP F pts er) (ysP F pts mul w er) m):QfU F.z kn pts mul w er (Qn0 m kn):=by
 obtain⟨V,I,X⟩:=h;rw[QmJ hz J O]at X;have:=QeT T U;refine⟨Qfh I,QmK (Qp0 V),?_⟩;rw[QhJ F.z pts mul (QpZ F.z I)];omega
end
end
section
def PD (W:World)(bd:Nat)(u0 u1 u2 u3 v1 v2:Value)(l1 l2:List Int):Prop:=Six W bd u0 u1 u2 u3 v1 v2∧Own W (bd+1) v1 l1∧Own W (bd+1) v2 l2∧Dis v1 v2∧bd<W.heap.size
section
variable {W W':World} {bd:Nat} {u0 u1 u2 u3 v1 v2 u:Value} {l1 l2 l':List Int}
theorem PD.drew (h:PD W bd u0 u1 u2 u3 v1 v2 l1 l2):PD W.drew bd u0 u1 u2 u3 v1 v2 l1 l2:=h
theorem PD.below (h:PD W bd u0 u1 u2 u3 v1 v2 l1 l2)(I:Below W.heap.size W W'):PD W' bd u0 u1 u2 u3 v1 v2 l1 l2 :=
 ⟨h.1.keep I h.2.2.2.2,h.2.1.below I ρ,h.2.2.1.below I ρ,h.2.2.2.1,θ h.2.2.2.2 I.size⟩
end
theorem QbU {l:List Int} {k:Nat} (I:k<l.length)(x:Int):x∈l.take (k+1)↔x∈l.take k∨x=l[k]?.getD 0:=by
 rw[List.take_succ_eq_append_getElem I,List.mem_append,List.mem_singleton,List.getElem?_eq_getElem I,Option.getD_some]
theorem Qdi {l:List Int} {k:Nat} (I:k<l.length)(h:(l.take k).Nodup)(J:¬ l[k]?.getD 0∈l.take k):(l.take (k+1)).Nodup:=by
 rw[List.take_succ_eq_append_getElem I,List.nodup_append];rw[List.getElem?_eq_getElem I,Option.getD_some]at J;refine⟨h,by simp,fun x O y T e=>J ?_⟩;have:y=l[k]:=by simpa using T
 rw[←this,←e];exact O
theorem QdD {l:List Int} {k:Nat} (I:k<l.length)(J:l[k]?.getD 0∈l.take k):¬ l.Nodup:=fun h=>by
 have O:(l.take (k+1)).Nodup:=List.Pairwise.sublist (List.take_sublist _ _) h;rw[List.take_succ_eq_append_getElem I,List.nodup_append]at O;rw[List.getElem?_eq_getElem I,Option.getD_some]at J;exact O.2.2 _ J _ (List.mem_singleton.2 rfl) rfl
theorem QhK {l:List Int} {k x:Nat} (I:k<l.length)(O:l[k]?.getD 0=(x:Int)):(fun i:Nat=>if i=x then true else decide ((i:Int)∈l.take k))=fun i:Nat=>decide ((i:Int)∈l.take (k+1)):=funext fun i=>by
 by_cases e:i=x
 ·rw[if_pos e];exact (decide_eq_true ((QbU I _).2 (.inr (by rw[O,e])))).symm
 ·rw[if_neg e];by_cases h:(i:Int)∈l.take k
  ·rw[decide_eq_true h,decide_eq_true ((QbU I _).2 (.inl h))]
  ·rw[decide_eq_false h,decide_eq_false fun T=>?_];rcases (QbU I _).1 T with J |J
   ·exact h J
   ·rw[O]at J;exact e (by omega)
end
section
open Cw.CField (inv)
theorem Qp1 (F:FD)(x y:Int)(g:Nat)(w:World)(O:GF w w.heap.size g F)(T:eli F.z y≠0) :
  Calls Tryz.prog 175 #[.pointer (some ⟨g,0,none⟩),.int .i64 x,.int .i64 y] w fun e w'=>e=.returned (.tuple #[.int .i64 (ci (eli F.z x*inv (eli F.z y))),.int .i64 0])∧Below w.heap.size w w':=by
 have U:=η (Qpf F y g w O T);have I:=fun W h=>QbZ F x (ci (inv (eli F.z y))) g W h
 rw[Qam]at I;replace I:=fun W h=>η (I W h)
 clear T;go_enter Tryz.func175,Tryz.ntmps175;go_wp2_with fail;(with_reducible refine U.out.mono ?_);rintro e w1 ⟨rfl,J⟩;go_wp2_with fail;(with_reducible refine (I w1 (O.bm J)).out.mono ?_);rintro e X ⟨rfl,V⟩;go_wp2_with fail;go_ret2;exact⟨rfl,ζ J V⟩
theorem Qp2 (F:FD)(I ys:List Int)(n:Nat)(A1 A2:Option Addr)(c1 c2 g:Nat)(w:World)(hg:GF w w.heap.size g F)(bf:Rd w w.heap.size A1 I)(bR:Rd w w.heap.size A2 ys)(aC:I.length=n)(aR:ys.length=n)(hn:n≤64)
  (hd:∀i j,i<n→j<i→eli F.z (I[i]?.getD 0)≠eli F.z (I[j]?.getD 0)) :
  Calls Tryz.prog 214 #[.pointer (some ⟨g,0,none⟩),.slice A1 n c1,.slice A2 n c2] w fun e w'=>∃l A c,e=.returned (.tuple #[.slice A l.length c,.int .i64 0])∧Rd w' w'.heap.size A l∧LI F.z (fun i=>eli F.z (I[i]?.getD 0)) (fun i=>eli F.z (ys[i]?.getD 0)) n l∧Own w' w.heap.size (.slice A l.length c) l∧Below w.heap.size w w':=by
 have hq:=F.q256;have hO:=η (Qc5 F g w hg);have cL:=QfF F.q (by omega);have aS:=η (BB.newz w F.q);obtain⟨Y,hY⟩:=ε (w.alloc (.cells (Array.replicate F.q (Value.bool false)) 4));have bg:Below w.heap.size w Y:=by rw[hY];exact β
 have bh:w.heap.size<Y.heap.size:=by rw[hY];simp
 rw[←hY]at aS;have cM:((n:Int) !=(n:Int))=false:=by simp
 replace hY:=η hY;replace hd:=η hd;replace aC:=η aC;replace aR:=η aR;obtain⟨X,hX⟩:∃X:Nat→R F.z,X=fun i=>eli F.z (I[i]?.getD 0):=⟨_,rfl⟩
 obtain⟨U,aZ⟩:∃U:Nat→R F.z,U=fun i=>eli F.z (ys[i]?.getD 0):=⟨_,rfl⟩
 rw[←hX,←aZ];have bi:Hid (∀k,eli F.z (I[k]?.getD 0)=X k):=fun k=>by rw[hX]
 have bT:Hid (∀k,eli F.z (ys[k]?.getD 0)=U k):=fun k=>by rw[aZ]
 have aT:Hid (∀i j,i<n→j<i→X i≠X j):=fun i j h1 h2=>by rw[hX];exact hd.out i j h1 h2
 clear hX aZ hd;go_enter Tryz.func214,Tryz.ntmps214;go_wp2_with fail;(with_reducible refine hO.out.mono ?_);rintro e w1 ⟨rfl,rfl⟩;go_wp2_with fail;rw[←hY.out];go_loopw [28] (fun i wr=>∃ (k:Nat) (f:Nat→Bool),k≤n∧i=.int .i64 k∧Hid (BB wr w.heap.size F.q f)∧Hid (∀m,f m=true→∃j,j<k∧QaA (X j)=m)∧Below w.heap.size w wr∧w.heap.size<wr.heap.size) (fun i _=>n - (intOf i).toNat)
 case atStart=>exact⟨0,fun _=>false,by omega,rfl,aS,fun m h=>(by cases h),bg,bh⟩
 case round =>
  obtain⟨k,f,hk,rfl,co,bH,V,bI⟩:=hrel;obtain⟨w3,rfl⟩:=ε (wr:World);clear aS bg bh;by_cases af:k<n
  ·have bU:(0:Int)≤(k:Int):=by omega
   have bV:(k:Int)<(n:Int):=by omega
   obtain⟨b,o,rfl,hb,hc⟩:=bf.at_ (by rw[aC.out];exact af:k<I.length);have bW:=(V.cell (p:=⟨b,o+k,none⟩) hb).trans hc;have hA:=Qcf F (I[k]?.getD 0) 0 g w3 (hg.bm V);rw[bi.out k,QbC,Qad]at hA;obtain⟨x,O⟩:=ε (I[k]?.getD 0);rw[←O]at bW hA;obtain⟨m,hm⟩:=ε (QaA (X k):Nat);have bj:ci (X k)=(m:Int):=by unfold ci;rw[hm]
   rw[bj]at hA;have bX:m<F.q:=by rw[hm];exact QaM _
   have cN:(0:Int)≤(m:Int):=by omega
   have cO:(m:Int)<(F.q:Int):=by omega
   have bk:f m=false:=by
    cases h:f m with
    |false=>rfl
    |true =>
     exfalso;obtain⟨j,hj,e⟩:=bH.out m h;exact aT.out k j af hj (Qbf (by rw[e,hm]))
   replace hA:=η hA;replace O:=η O;clear hc bj;go_wp2_with fail;(with_reducible refine hA.out.mono ?_);rintro e w4 ⟨rfl,a1⟩;have aU:=co.out.below a1 bI;have bY:=aU.cell bX;rw[bk]at bY;have cP:=aU.frozen m;have bZ:=η (aU.set_ m true);have b0:Hid (∀m',(if m'=m then true else f m')=true→∃j,j<k+1∧QaA (X j)=m'):=fun m' h=>by
    by_cases e:m'=m
    ·exact⟨k,by omega,by rw[e,hm]⟩
    ·rw[if_neg e]at h;obtain⟨j,hj,e2⟩:=bH.out m' h;exact⟨j,by omega,e2⟩
   have b3:Below w.heap.size w (w4.setCell ⟨w.heap.size,m,none⟩ (.bool true)):=(ζ V a1).setCell (p:=⟨w.heap.size,m,none⟩) ρ _;have b4:w.heap.size<(w4.setCell ⟨w.heap.size,m,none⟩ (.bool true)).heap.size:=θ (θ bI a1.size) (QbB _ _ _).size;replace hm:=η hm;clear bk;go_wp2_with fail;go_roundw
   case rel=>exact⟨k+1,_,by omega,by go_num,bZ,b0,b3,b4⟩
   case measure=>simp[intOf];omega
  ·obtain rfl:n=k:=by omega
   obtain⟨Y3,ap⟩:=ε (w3.alloc (.cells #[.int .i64 1] 3));have bl:Below w3.heap.size w3 Y3:=by rw[ap];exact β
   have bm:Rd Y3 Y3.heap.size (some ⟨w3.heap.size,0,none⟩) [1]:=by rw[ap];exact Qml w3 [1]
   have bo:=ζ V bl;have cQ:=V.size;have bp:=η (LI.zero F.z X U);have bq:=η (ZI.zero F.z X);replace ap:=η ap;go_wp2_with fail;rw[←ap.out];go_loopw [46,11,12] (fun i ov zv wr=>∃ (k:Nat) (l z:List Int) (Al Az:Option Addr) (cl cz:Nat),k≤n∧i=.int .i64 k∧ov=.slice Al l.length cl∧zv=.slice Az z.length cz∧Rd wr wr.heap.size Al l∧Rd wr wr.heap.size Az z∧Hid (LI F.z X U k l)∧Hid (ZI F.z X k z)∧Hid (Own wr w.heap.size (.slice Al l.length cl) l)∧Below w.heap.size w wr) (fun i _ _ _=>n - (intOf i).toNat)
   case atStart=>exact⟨0,[],[1],none,some ⟨w3.heap.size,0,none⟩,0,1,by omega,rfl,rfl,rfl,Rd.nil,bm,bp,bq,Own.nil _ _,bo⟩
   case round =>
    obtain⟨k,l,z,Al,Az,cl,cz,hk,rfl,rfl,rfl,aN,a0,hL,hZ,cr,J⟩:=hrel;obtain⟨w5,rfl⟩:=ε (wr:World);clear bl bm bo bp bq;by_cases af:k<n
    ·have bU:(0:Int)≤(k:Int):=by omega
     have bV:(k:Int)<(n:Int):=by omega
     obtain⟨b1,o1,rfl,cu,bL⟩:=bf.at_ (by rw[aC.out];exact af:k<I.length);obtain⟨b2,o2,rfl,bM,bN⟩:=bR.at_ (by rw[aR.out];exact af:k<ys.length);have br:=(J.cell (p:=⟨b1,o1+k,none⟩) cu).trans bL;have aV:=(J.cell (p:=⟨b2,o2+k,none⟩) bM).trans bN;obtain⟨x,O⟩:=ε (I[k]?.getD 0);obtain⟨y,hy⟩:=ε (ys[k]?.getD 0);rw[←O]at br;rw[←hy]at aV;have aq:eli F.z x=X k:=by rw[O,bi.out]
     have aW:eli F.z y=U k:=by rw[hy,bT.out]
     have aX:=hg.bm J;have b5:l.length≤maxLen:=by have:=hL.out.1;unfold maxLen;omega
     have b6:z.length≤maxLen:=by have:=hZ.out.1;unfold maxLen;omega
     have aE:=QdL F l x Al cl g w5.drew aX.drew aN.drew b5;rw[aq]at aE;have hS:=fun W h=>QgN F y (ci (QaW F.z l (X k))) g W h
     rw[Qam,aW]at hS;have aG:=fun W a b=>QdL F z x Az cz g W a b b6
     rw[aq]at aG;have bs:=hZ.out.ne (fun i hi=>aT.out k i af hi);have ar:=fun W a=>Qp1 F (ci (U k - QaW F.z l (X k))) (ci (QaW F.z z (X k))) g W a (by rw[Qam];exact bs)
     rw[Qam,Qam]at ar;obtain⟨av,aJ⟩:=ε (ci ((U k - QaW F.z l (X k))*inv (QaW F.z z (X k))));rw[←aJ]at ar;have b7:=η (hL.out.step hZ.out (fun i hi=>aT.out k i af hi) (a:=av) (by rw[aJ,Qam]));have b8:=η hZ.out.step;have bt:=fun W a b d=>η (Qkw F l z av Al Az cl cz g W a b d (by have:=hL.out.1;omega) (by have:=hZ.out.1;omega))
     have hN:=fun W a=>QgM F x g W a
     rw[aq]at hN;have au:=fun A3 c3 W a b d=>QfL F z [ci (-(X k)),1] Az A3 cz c3 g W a b d (by have:=hZ.out.1;omega) (by simp)
     rw[show [ci (-(X k)),1].length=2 from rfl]at au;unfold Qkv at bt;unfold QeB at au;replace aE:=η aE;replace hS:=fun W h=>η (hS W h)
     replace aG:=fun W a b=>η (aG W a b)
     replace ar:=fun W a=>η (ar W a)
     replace hN:=fun W a=>η (hN W a)
     replace au:=fun A3 c3 W a b d=>η (au A3 c3 W a b d)
     replace O:=η O;replace hy:=η hy;replace aJ:=η aJ;replace aq:=η aq;replace aW:=η aW;clear bL bN bs;go_wp2_with fail;clear br;have bu:=η aV;have bv:b2<w5.heap.size:=θ bM J.size;refine wp_region_held_drew (S:=fun w'=>w'.cell? ⟨b2,o2+k,none⟩=some (.int .i64 y)) (by kernel_rfl) (by (try dsimp only);exact bu.out) (fun hHeld=>?_);refine tk 0 ?_;simp only[pS]
     refine tk 1 ?_;simp only[pS]
     refine tk 2 ?_;simp only[pS]
     refine tk 3 ?_;simp only[pS]
     refine tk 4 ?_;simp only[pS]
     refine tk 5 ?_;simp only[pS]
     refine tk 6 ?_;simp only[pS]
     refine tk 7 ?_;simp only[pS]
     refine rd 8 fun K hK=>?_
     go_simp;go_at_call 180;(with_reducible refine (aE).out.mono ?_);rintro e w6 ⟨rfl,a3⟩;have bw:=η ((a3.cell (p:=⟨b2,o2+k,none⟩) bv).trans bu.out);have bx:w5.heap.size≤w6.heap.size:=a3.size;have aY:Below w5.heap.size w5 w6:=(Below.refl _ w5).drew.trans a3;have b9:=hS w6 (aX.bm aY);go_wp2_with fail;refine hK.out _ _ bw.out fun hHeld=>?_;clear hK K;try simp only[pS]
     refine rd 9 fun K hK=>?_
     go_simp;go_at_call 34;(with_reducible refine (b9).out.mono ?_);rintro e w7 ⟨rfl,bO⟩;go_wp2_with fail;refine hK.out _ _ ((bO.cell (p:=⟨b2,o2+k,none⟩) (θ bv bx)).trans bw.out) fun hHeld=>?_;clear hK K;try simp only[pS]
     refine tk 10 ?_;simp only[pS]
     refine δ ?_;have T:=aY.trans (bO.mono bx);have bz:=aX.bm T;have cc:=a0.bm T;have cR:=aN.bm T;clear aV;go_wp2_with fail;(with_reducible refine (aG w7 bz cc).out.mono ?_);rintro e w8 ⟨rfl,a4⟩;have bA:=ζ T a4;have bB:=bz.bm a4;go_wp2_with fail;(with_reducible refine (ar w8 bB).out.mono ?_);rintro e w9 ⟨rfl,a5⟩;have ac:=ζ bA a5;have bC:=bB.bm a5;go_wp2_with fail;(with_reducible refine (bt w9 bC (aN.bm ac) (a0.bm ac)).out.mono ?_);rintro e a6 ⟨a7,bP,rfl,bQ,a8⟩;have cd:Rd a6 a6.heap.size a7 (QeC F.z l av z):=by obtain⟨A',c',e',-,h',-⟩:=bQ.form;cases e';exact h'
     have aK:=ζ ac a8;have bD:=bC.bm a8;go_wp2_with fail;(with_reducible refine (hN a6 bD).out.mono ?_);rintro e am ⟨rfl,an⟩;have bE:=ζ aK an;have ce:=bD.bm an;obtain⟨al,ax⟩:=ε (am.alloc (.cells #[.int .i64 (ci (-(X k))),.int .i64 1] 3));have aw:Below am.heap.size am al:=by rw[ax];exact β
     have cf:Rd al al.heap.size (some ⟨am.heap.size,0,none⟩) [ci (-(X k)),1]:=by rw[ax];exact Qml am [ci (-(X k)),1]
     replace ax:=η ax;have bF:=ζ bE aw;have cg:=au (some ⟨am.heap.size,0,none⟩) 2 al (ce.bm aw) (a0.bm bF) cf;go_wp2_with fail;rw[←ax.out];(with_reducible refine cg.out.mono ?_);rintro e cB ⟨cC,cD,rfl,cE,cU,cV,cW,cF⟩;have aL:=(ζ an aw).trans (cF.mono (τ an.size aw.size));have ch:=cd.bm aL;have cj:=ζ aK aL;have cm:Hid (Own cB w.heap.size (.slice a7 (QeC F.z l av z).length bP) (QeC F.z l av z)):=(bQ.base (by have h2:=ac.size;have h3:=J.size;omega)).below aL ρ;go_wp2_with fail;go_roundw
     case rel=>exact⟨k+1,_,_,a7,cC,bP,cD,by omega,by go_num,rfl,rfl,ch,cE,b7,b8,cm,ζ J cj⟩
     case measure=>simp[intOf];omega
    ·obtain rfl:n=k:=by omega
     go_wp2_with fail;go_ret2;exact⟨l,Al,cl,rfl,aN,hL.out,cr.out,J⟩
end
end Go.Proofs
namespace Cw
section
variable {R:Type} [CRing R]
theorem QmL (f g:Nat→R){t N:Nat} (h:t<N):conv f g t=Qat N fun i=>Qat N fun j=>if i+j=t then f i*g j else 0:=by
 unfold conv
 rw[QfP (n:=t+1) (m:=N) (by omega) fun i I _=>Qag fun j _=>if_neg (by omega)];refine Qaa fun i J=>?_
 rw[Qak (k:=t - i) (by omega) fun j _ O=>if_neg (by omega),if_pos (by omega)]
theorem QmM (f g h:Nat→R)(t:Nat):conv (conv f g) h t=Qat (t+1) fun i=>Qat (t+1) fun j=>Qat (t+1) fun k=>if i+j+k=t then f i*g j*h k else 0:=by
 rw[QmL (conv f g) h (Nat.lt_succ_self t)];have T:∀s,s<t+1→(Qat (t+1) fun k=>if s+k=t then conv f g s*h k else 0)=Qat (t+1) fun i=>Qat (t+1) fun j=>Qat (t+1) fun k=>if i+j=s then (if s+k=t then f i*g j*h k else 0) else 0:=fun s O=>by
  have J:∀k,(if s+k=t then conv f g s*h k else 0)=Qat (t+1) fun i=>Qat (t+1) fun j=>if i+j=s then (if s+k=t then f i*g j*h k else 0) else 0:=fun k=>by
   by_cases e:s+k=t
   ·simp only[if_pos e];rw[QmL f g O,←Qar];refine Qaa fun i _=>?_
    rw[←Qar];refine Qaa fun j _=>?_
    by_cases I:i+j=s
    ·rw[if_pos I,if_pos I]
    ·rw[if_neg I,if_neg I,Qah]
   ·simp only[if_neg e,ite_self];rw[Qag fun i _=>Qag fun j _=>rfl]
  rw[Qaa fun k _=>J k,QaX];refine Qaa fun i _=>?_
  rw[QaX]
 rw[Qaa T,QaX];refine Qaa fun i V=>?_
 rw[QaX];refine Qaa fun j X=>?_
 rw[QaX];refine Qaa fun k Y=>?_
 by_cases e:i+j<t+1
 ·rw[Qak (k:=i+j) e fun s _ U=>if_neg (fun J=>U J.symm),if_pos rfl]
 ·rw[if_neg (by omega),Qag fun s O=>if_neg (by omega)]
theorem Qn1 (f g h:Nat→R)(t:Nat):conv (conv f g) h t=conv f (conv g h) t:=by
 rw[QfQ f,QmM,QmM];rw[Qaa fun i _=>QaX (t+1) (t+1) fun j k=>if i+j+k=t then f i*g j*h k else 0];rw[QaX];rw[Qaa fun k _=>QaX (t+1) (t+1) fun i j=>if i+j+k=t then f i*g j*h k else 0];rw[QaX];refine Qaa fun j _=>Qaa fun k _=>Qaa fun i _=>?_
 by_cases e:i+j+k=t
 ·rw[if_pos e,if_pos (by omega)];ac_rfl
 ·rw[if_neg e,if_neg (by omega)]
theorem Qp3 (f g h:Nat→R)(t:Nat):conv f (fun s=>g s+h s) t=conv f g t+conv f h t:=by
 unfold conv
 rw[←Qbc];exact Qaa fun i _=>QaQ _ _ _
structure Pl (R:Type) [CRing R] where
 c:Nat→R
 fin:∃n,LtD c n
theorem Pl.ext' {a b:Pl R} (h:∀t,a.c t=b.c t):a=b:=by
 obtain⟨f,I⟩:=a;obtain⟨g,J⟩:=b;have e:f=g:=funext h;subst e;rfl
instance:Add (Pl R):=⟨fun a b=>⟨fun t=>a.c t+b.c t,by
 obtain⟨n,I⟩:=a.fin;obtain⟨m,J⟩:=b.fin;exact⟨n+m,fun t O=>by show a.c t+b.c t=0;rw[I t (by omega),J t (by omega),Qad]⟩⟩⟩
instance:Mul (Pl R):=⟨fun a b=>⟨conv a.c b.c,by
 obtain⟨n,I⟩:=a.fin;obtain⟨m,J⟩:=b.fin;exact⟨n+m,fun t O=>Qb8 I J (by omega)⟩⟩⟩
instance:Neg (Pl R):=⟨fun a=>⟨fun t=>- a.c t,by
 obtain⟨n,I⟩:=a.fin;exact⟨n,fun t J=>by show -a.c t=0;rw[I t J,QcT]⟩⟩⟩
instance:Zero (Pl R):=⟨⟨fun _=>0,0,fun _ _=>rfl⟩⟩
instance:One (Pl R):=⟨⟨fun t=>if t=0 then 1 else 0,1,fun t I=>if_neg (by omega)⟩⟩
theorem QkH (a b:Pl R)(t:Nat):(a+b).c t=a.c t+b.c t:=rfl
theorem Qp4 (a b:Pl R)(t:Nat):(a*b).c t=conv a.c b.c t:=rfl
theorem QmN (t:Nat):(1:Pl R).c t=if t=0 then 1 else 0:=rfl
instance:CRing (Pl R) where
 add_assoc' a b c:=Pl.ext' fun t=>QcD _ _ _
 add_comm' a b:=Pl.ext' fun t=>QdV _ _
 mul_assoc' a b c:=Pl.ext' fun t=>Qn1 a.c b.c c.c t
 mul_comm' a b:=Pl.ext' fun t=>QfQ a.c b.c t
 zero_add' a:=Pl.ext' fun t=>Qai _
 neg_add' a:=Pl.ext' fun t=>Qcu _
 one_mul' a:=Pl.ext' fun t=>by
  show conv (fun t=>if t=0 then (1:R) else 0) a.c t=a.c t
  unfold conv
  rw[Qak (k:=0) (by omega) fun i _ I=>by dsimp only;rw[if_neg I,Qah]];dsimp only;rw[if_pos rfl,Qav,Nat.sub_zero]
 mul_add' a b c:=Pl.ext' fun t=>Qp3 a.c b.c c.c t
def Pl.lt (a:Pl R)(n:Nat):Prop:=LtD a.c n
def Pl.k (x:R):Pl R:=⟨fun t=>if t=0 then x else 0,1,fun t I=>if_neg (by omega)⟩
def Pl.lin (x:R):Pl R:=⟨fun t=>if t=0 then -x else if t=1 then 1 else 0,2,fun t I=>by dsimp only;rw[if_neg (by omega),if_neg (by omega)]⟩
theorem Qee (x:R)(a:Pl R)(t:Nat):(Pl.k x*a).c t=x*a.c t:=by
 show conv (fun t=>if t=0 then x else 0) a.c t=_
 unfold conv
 rw[Qak (k:=0) (by omega) fun i _ I=>by dsimp only;rw[if_neg I,Qah]];dsimp only;rw[if_pos rfl,Nat.sub_zero]
theorem QiC (x:R)(a:Pl R)(t:Nat):(Pl.lin x*a).c t=(if t=0 then 0 else a.c (t - 1)) - x*a.c t:=by
 show conv (fun t=>if t=0 then -x else if t=1 then 1 else 0) a.c t=_
 unfold conv
 cases t with
 |zero =>
  rw[Qaj,QaG,Qai];dsimp only;rw[if_pos rfl,if_pos rfl,QcK,Qbb]
 |succ k =>
  rw[QaE,QaE,Qag (n:=k) fun i I=>by dsimp only;rw[if_neg (by omega),if_neg (by omega),Qah]];dsimp only;rw[if_pos rfl,if_neg (by omega),if_pos rfl,if_neg (by omega),Qad,Qav,Qbb,QbV,QdV];rfl
noncomputable def Pl.ev (a:Pl R)(x:R):R:=vl a.c (Classical.choose a.fin) x
theorem QhL {a:Pl R} {n:Nat} (h:a.lt n)(x:R):a.ev x=vl a.c n x:=by
 have I:=Classical.choose_spec a.fin;unfold Pl.ev;rcases Nat.le_total n (Classical.choose a.fin) with g |g
 ·exact Qgh h g x
 ·exact (Qgh I g x).symm
theorem QiD (a b:Pl R)(x:R):(a*b).ev x=a.ev x*b.ev x:=by
 obtain⟨n,I⟩:=a.fin;obtain⟨m,J⟩:=b.fin;rw[QhL I,QhL J,QhL (a:=a*b) (n:=n+m) (fun t O=>Qb8 I J (by omega))];exact Qjs I J x
theorem Qv4 (a b:Pl R)(x:R):(a+b).ev x=a.ev x+b.ev x:=by
 obtain⟨n,T⟩:=a.fin;obtain⟨m,U⟩:=b.fin;have I:a.lt (n+m):=LtD.mono T (by omega);have J:b.lt (n+m):=LtD.mono U (by omega);rw[QhL I,QhL J,QhL (a:=a+b) (n:=n+m) (fun t O=>by rw[QkH,I t O,J t O,Qad])];unfold vl;rw[←Qbc];exact Qaa fun i _=>Qbw _ _ _
theorem Qxg (y x:R):(Pl.k y).ev x=y:=by
 rw[QhL (n:=1) (fun t I=>if_neg (by omega))];unfold vl;rw[Qaj,QaG,Qai]
 show (if (0:Nat)=0 then y else 0)*1=y
 rw[if_pos rfl,Qax]
theorem Qv5 (y x:R):(Pl.lin y).ev x=x - y:=by
 rw[QhL (n:=2) (fun t I=>by show (if t=0 then -y else if t=1 then 1 else 0)=0;rw[if_neg (by omega),if_neg (by omega)])];unfold vl;rw[Qaj,Qaj,QaG,Qai]
 show (if (0:Nat)=0 then -y else if (0:Nat)=1 then (1:R) else 0)*1+(if (1:Nat)=0 then -y else if 1=1 then 1 else 0)*(1*x)=x - y
 rw[if_pos rfl,if_neg (by omega),if_pos rfl,Qax,Qav,Qav,QdV];rfl
def Pl.dvd (a b:Pl R):Prop:=∃c,b=c*a
theorem Pl.dvd.add {a b c:Pl R} (h:a.dvd b)(g:a.dvd c):a.dvd (b+c):=by
 obtain⟨u,rfl⟩:=h;obtain⟨v,rfl⟩:=g;exact⟨u+v,(Qbw _ _ _).symm⟩
theorem Pl.dvd.mul {a b:Pl R} (h:a.dvd b)(c:Pl R):a.dvd (c*b):=by
 obtain⟨u,rfl⟩:=h;exact⟨c*u,(Qa6 _ _ _).symm⟩
theorem Pl.dvd.self (a c:Pl R):a.dvd (c*a):=⟨c,rfl⟩
theorem Pl.dvd.refl (a:Pl R):a.dvd a:=⟨1,(Qav a).symm⟩
theorem Pl.dvd.zero (a:Pl R):a.dvd 0:=⟨0,(Qah a).symm⟩
theorem Pl.dvd.trans {a b c:Pl R} (h:a.dvd b)(g:b.dvd c):a.dvd c:=by
 obtain⟨u,rfl⟩:=h;obtain⟨v,rfl⟩:=g;exact⟨v*u,(Qa6 _ _ _).symm⟩
theorem Pl.dvd.neg {a b:Pl R} (h:a.dvd b):a.dvd (-b):=by
 obtain⟨u,rfl⟩:=h;exact⟨-u,(Qbb _ _).symm⟩
theorem Pl.dvd.sub {a b c:Pl R} (h:a.dvd b)(g:a.dvd c):a.dvd (b - c):=by rw[QbV];exact h.add g.neg
def Cop (a b:Pl R):Prop:=∃u v,u*a+v*b=1
theorem Cop.dvd {a b c:Pl R} (h:Cop a b)(g:a.dvd (b*c)):a.dvd c:=by
 obtain⟨u,v,e⟩:=h;have J:c=(u*c)*a+v*(b*c):=by
  have I:c=(u*a+v*b)*c:=by rw[e,Qav]
  rw[Qbw]at I;rw[show (u*c)*a=u*a*c by ac_rfl,show v*(b*c)=v*b*c by ac_rfl];exact I
 rw[J];exact (Pl.dvd.self a _).add (g.mul v)
end
section
variable {F:Type} [CField F]
open CField (inv)
theorem Qp5 (a:Pl F)(x:F){n:Nat} (I:a.lt (n+1)):∃q:Pl F,a=Pl.k (a.ev x)+Pl.lin x*q∧q.lt n∧∀l,q.c l=Qat (n - l) fun k=>a.c (l+1+k)*pw x k:=by
 have J:LtD (fun l=>Qat (n - l) fun k=>a.c (l+1+k)*pw x k) n:=fun t O=>by
  dsimp only;rw[show n - t=0 by omega];rfl
 refine⟨⟨fun l=>Qat (n - l) fun k=>a.c (l+1+k)*pw x k,n,J⟩,Pl.ext' fun t=>?_,J,fun _=>rfl⟩;rw[QkH,QiC]
 show a.c t=(if t=0 then a.ev x else 0)+_
 dsimp only;rcases Nat.eq_zero_or_pos t with h |h
 ·subst h;rw[if_pos rfl,if_pos rfl,QhL I];unfold vl;rw[QaE,QcK,Nat.sub_zero,←Qal,QbK,Qax,QcD,←QcU,←Qbc,Qag fun i _=>?_,Qad];rw[QdZ,Nat.zero_add,Nat.add_comm 1 i,show a.c (i+1)*(x*pw x i)=x*(a.c (i+1)*pw x i) by ac_rfl,QaU]
 ·obtain⟨k,rfl⟩:∃k,t=k+1:=⟨t - 1,by omega⟩;rw[if_neg (by omega),if_neg (by omega),Qai,Nat.add_sub_cancel];by_cases T:k<n
  ·rw[show n - k=(n - (k+1))+1 by omega,QaE,←Qal,QbK,Qax,Nat.add_zero,QbV,QcD,←QcU,←Qbc,Qag fun i _=>?_,Qad];rw[QdZ,show k+1+(i+1)=k+1+1+i by omega,show a.c (k+1+1+i)*(x*pw x i)=x*(a.c (k+1+1+i)*pw x i) by ac_rfl,QaU]
  ·rw[I (k+1) (by omega),show n - k=0 by omega,show n - (k+1)=0 by omega,QaG,QaG,Qac,Qa3]
theorem Qv6 (a:Pl F):∃n,a.lt (n+1):=by
 obtain⟨n,I⟩:=a.fin;exact⟨n,LtD.mono I (by omega)⟩
theorem Qn2 {g a:Pl F} {x:F} (J:g.ev x≠0)(h:g.dvd (Pl.lin x*a)):g.dvd a:=by
 obtain⟨n,U⟩:=Qv6 g;obtain⟨q,e,-,-⟩:=Qp5 g x U;generalize g.ev x=y at e J;refine Cop.dvd (b:=Pl.lin x) ⟨Pl.k (inv y),-(Pl.k (inv y)*q),?_⟩ h;have O:Pl.k (inv y)*Pl.k y=1:=Pl.ext' fun t=>by
  rw[Qee,QmN]
  show inv y*(if t=0 then y else 0)=_
  by_cases I:t=0
  ·rw[if_pos I,if_pos I,QbH J]
  ·rw[if_neg I,if_neg I,Qac]
 have T:Pl.k (inv y)*g=1+Pl.k (inv y)*q*Pl.lin x:=by
  rw[e,QaQ,O];ac_rfl
 rw[T,Qbb,QcD,QaU,Qad]
theorem Qjw {g a:Pl F} {n:Nat} (I:g.lt (n+1))(h0:g.c n≠0)(J:a.lt n)(h:g.dvd a):a=0:=by
 obtain⟨q,rfl⟩:=h;obtain⟨N,O⟩:=q.fin;have hz:=Qgi (f:=g.c) (g:=q.c) (a:=n) h0 I (fun t T=>by
  rw[QfQ];exact J t T) N O
 have e:q=0:=Pl.ext' hz;rw[e,Qah]
end
end Cw
