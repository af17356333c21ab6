/- Plain algebra: a field of P^d elements has an image in each field of P^M elements with d dividing M. -/
import Derived.Test.YtogfekjbpcfgmaaGreatZtkNewL
set_option maxRecDepth 100000
set_option maxHeartbeats 16000000
set_option linter.unusedVariables false
set_option linter.unusedSimpArgs false
namespace Cw
open CField (inv)
section
variable {F:FD}
theorem Qjf {p:Nat} (I:nsm p (1:R F.z)=0)(n:Nat):nsm (n % p) (1:R F.z)=nsm n 1:=by
 conv=>rhs;rw[←Nat.div_add_mod n p]
 rw[QfZ,QiR I (Nat.dvd_mul_right p (n / p)),Qai]
variable {p:Nat} [NeZero p]
def kz (F:FD)(a:Zp p):R F.z:=nsm a.val 1
theorem Qmn (I:nsm p (1:R F.z)=0)(a b:Zp p):kz F (a+b)=kz F a+kz F b:=by
 unfold kz;rw[Zp.add_val,Qjf I,QfZ]
theorem QsZ (I:nsm p (1:R F.z)=0)(a b:Zp p):kz F (a*b)=kz F a*kz F b:=by
 unfold kz;rw[Zp.mul_val,Qjf I,Qk4,Qcv]
theorem Qf8:kz F (0:Zp p)=0:=by unfold kz;rw[Zp.zero_val];rfl
theorem Qvv (I:nsm p (1:R F.z)=0)(a:Zp p):kz F (-a)=- kz F a:=QbM (by rw[←Qmn I,QaU,Qf8])
theorem Qvw (I:nsm p (1:R F.z)=0)(a b:Zp p):kz F (a - b)=kz F a - kz F b:=by rw[QbV,Qmn I,Qvv I,QbV]
theorem Qs0 (I:2≤p):kz F (1:Zp p)=1:=by
 unfold kz;rw[show (1:Zp p).val=1 from by rw[←Ql6,Qdq,Nat.mod_eq_of_lt (by omega)],Qe4]
theorem Qt0 (I:nsm p (1:R F.z)=0)(n:Nat)(f:Nat→Zp p):kz F (Qat n f)=Qat n fun i=>kz F (f i):=by
 induction n with
 |zero=>exact Qf8
 |succ n ih=>rw[Qaj,Qaj,Qmn I,ih]
end
section
variable {S F:FD}
def phi (S F:FD)(r:R F.z)(u:R S.z):R F.z:=Qat S.m fun i=>kz F (u.v i)*pw r i
def muV (S F:FD)(r:R F.z):R F.z:=pw r S.m+Qat S.m fun i=>kz F (S.c i)*pw r i
theorem Qvx (J:nsm S.p (1:R F.z)=0)(r:R F.z)(u:R S.z):phi S F r (T u)=r*phi S F r u - kz F (u.v (S.m - 1))*muV S F r:=by
 obtain⟨I,U⟩:∃I,S.m=I+1:=⟨S.m - 1,by have:=S.m1;omega⟩;unfold phi muV;have O:Qat S.m (fun i=>kz F ((T u).v i)*pw r i)=Qat S.m (fun i=>(if i=0 then 0 else kz F (u.v (i - 1)))*pw r i) - kz F (u.v (S.m - 1))*Qat S.m (fun i=>kz F (S.c i)*pw r i):=by
  rw[←Qal,←QdX];refine Qaa fun i V=>?_
  rw[T_v V,Qvw J,QsZ J,QdW,Qa6]
  congr 2
  by_cases e:i=0
  ·rw[if_pos e,if_pos e];exact Qf8
  ·rw[if_neg e,if_neg e]
 rw[O,U,QaE,if_pos rfl,Qah,Qai,Nat.add_sub_cancel,Qaj I (fun i=>kz F (u.v i)*pw r i),QaQ,QaQ,
  show r*Qat I (fun i=>kz F (u.v i)*pw r i)=Qat I (fun i=>(if i+1=0 then 0 else kz F (u.v (i+1 - 1)))*pw r (i+1)) from by
   rw[←Qal];exact Qaa fun i _=>by rw[if_neg (by omega),Nat.add_sub_cancel,QdZ,QgZ]]
 rw[show r*(kz F (u.v I)*pw r I)=kz F (u.v I)*pw r (I+1) from by rw[QdZ,QgZ]];simp only[QbV,Qeq];rw[QcD,←QcD (kz F (u.v I)*pw r (I+1)),QaU,Qai]
theorem Qhq (n:Nat)(u:R S.z):Tn (n+1) u=T (Tn n u):=by
 first
 |rfl
 |exact Qw9 n u
theorem Qs1 (I:nsm S.p (1:R F.z)=0){r:R F.z} (h0:muV S F r=0)(u:R S.z):∀n,phi S F r (Tn n u)=pw r n*phi S F r u
 |0=>by rw[QbK,Qav];rfl
 |n+1=>by rw[Qhq,Qvx I,h0,Qac,Qa3,Qs1 I h0 u n,QdZ,Qa6]
theorem Qpp (I:nsm S.p (1:R F.z)=0)(r:R F.z)(u w:R S.z):phi S F r (u+w)=phi S F r u+phi S F r w:=by
 unfold phi;rw[←Qbc];exact Qaa fun i _=>by rw[Qk8,Qmn I,Qbw]
theorem Qhr (I:nsm S.p (1:R F.z)=0){r:R F.z} (h0:muV S F r=0)(u w:R S.z):phi S F r (u*w)=phi S F r u*phi S F r w:=by
 have J:phi S F r (u*w)=Qat S.m fun j=>Qat S.m fun i=>kz F (u.v i)*(kz F ((Tn i w).v j)*pw r j):=by
  unfold phi;refine Qaa fun j T=>?_
  rw[Qtw u w T,Qt0 I,←Qar];exact Qaa fun i _=>by rw[QsZ I,Qa6]
 rw[J,QaX];have O:∀i,(Qat S.m fun j=>kz F (u.v i)*(kz F ((Tn i w).v j)*pw r j))=kz F (u.v i)*pw r i*phi S F r w:=fun i=>by
  rw[Qal,Qa6,←Qs1 I h0 w i];rfl
 rw[Qaa fun i _=>O i,Qar];rfl
theorem Qhs (r:R F.z):phi S F r 1=1:=by
 have O:=S.m1;unfold phi;rw[Qak (k:=0) (by omega) fun i I J=>by rw[Qk9 I,if_neg J,Qf8,Qah],Qk9 (by omega),if_pos rfl,Qs0 S.p2,QbK,Qav]
theorem QcZ (r:R F.z):phi S F r 0=0:=by
 unfold phi;exact Qag fun i _=>by rw[Qvf,Qf8,Qah]
theorem Qpq (I:nsm S.p (1:R F.z)=0){r:R F.z} (h0:muV S F r=0)(u:R S.z):∀n,phi S F r (pw u n)=pw (phi S F r u) n
 |0=>Qhs r
 |n+1=>by rw[Qbi,Qhr I h0,Qpq I h0 u n,Qbi]
theorem Qfc (I:nsm S.p (1:R F.z)=0){r:R F.z} (h0:muV S F r=0){u w:R S.z} (h:phi S F r u=phi S F r w):u=w:=by
 refine Classical.byContradiction fun V=>?_
 obtain⟨y,U⟩:=S.inv_ex (u+-w) (fun e=>V (by rw[show u=u+-w+w from by rw[QcD,Qcu,Qad],e,Qai]));have T:phi S F r (u+-w)=0:=by
  have J:=Qpp I r (u+-w) w;rw[QcD,Qcu,Qad,h]at J;exact (QgC (show 0+phi S F r w=phi S F r (u+-w)+phi S F r w from by rw[Qai];exact J)).symm
 have O:=Qhr I h0 (u+-w) y;rw[U,Qhs,T,Qah]at O;exact QbD O
theorem Qlq (hp:S.p=F.p)(I:nsm S.p (1:R F.z)=0){r:R F.z} (h0:muV S F r=0)(u:R S.z):Qbq S.m (phi S F r u):=by
 show pw (phi S F r u) (F.p ^ S.m)=phi S F r u
 rw[←hp,←Qpq I h0]
 congr 1
 exact QwP (F:=R S.z) u
def glE (S F:FD):Nat→List (R F.z)
 |0=>[]
 |n+1=>kz F ((Tn n (1:R S.z)).v (S.m - 1)) :: glE S F n
theorem Qnx (n:Nat):(glE S F n).length=n:=by
 induction n with
 |zero=>rfl
 |succ n ih=>show (glE S F n).length+1=_;rw[ih]
theorem Qpr (I:nsm S.p (1:R F.z)=0)(x:R F.z):∀n,phi S F x (Tn n 1)=pw x n - muV S F x*pev (glE S F n) x
 |0=>by
  show phi S F x 1=1 - muV S F x*0
  rw[Qhs,Qac,Qa3]
 |n+1=>by
  rw[Qhq,Qvx I,Qpr I x n,QdZ]
  show _=x*pw x n - muV S F x*(kz F ((Tn n (1:R S.z)).v (S.m - 1))+x*pev (glE S F n) x)
  rw[QiP,QaQ,Qb3 (muV S F x) (kz F _),QgZ (muV S F x) x];simp only[QbV,Qeq]
  ac_rfl
theorem Qvy (n:Nat):Tn n (1:R S.z)=pw (T 1) n:=by
 induction n with
 |zero=>rfl
 |succ n ih=>rw[Qhq,Qvg,ih,Qbi]
theorem Qt1 (n i:Nat)(h:i<n):(glE S F n)[i]?=some (kz F ((Tn (n - 1 - i) (1:R S.z)).v (S.m - 1))):=by
 induction n generalizing i with
 |zero=>omega
 |succ n ih =>
  cases i with
  |zero=>rfl
  |succ i =>
   show (glE S F n)[i]?=_
   rw[ih i (by omega),show n+1 - 1 - (i+1)=n - 1 - i by omega]
theorem Qps (hp:S.p=F.p)(V:nsm S.p (1:R F.z)=0)(hd:S.m∣F.m):∃x:R F.z,muV S F x=0:=by
 refine Classical.byContradiction fun aq=>?_
 have ad:=S.m1;have hq:2≤S.q:=S.z.q2;have au:S.m<S.q:=by
  have U:=S.p2;have J:∀m,m<2 ^ m:=fun m=>Nat.lt_two_pow_self
  have T:2 ^ S.m≤S.p ^ S.m:=Nat.pow_le_pow_left U _;exact θ (J S.m) T
 have hT:Tn S.q (1:R S.z)=Tn 1 1:=by rw[Qvy,Qvy,Qii];exact QwP (F:=R S.z) _
 have af:=QoT (F:=R F.z) (d:=S.m) hd ad;obtain⟨q',ab⟩:∃q',S.q=q'+1:=⟨S.q - 1,by omega⟩;have ag:∀x:R F.z,QaO S.m x=x→pw x S.q=x:=fun x O=>by
  have I:pw x (F.p ^ S.m)=x:=O;rw[←hp]at I;exact I
 have ah:=Qex (((List.range (FF.q (R F.z))).filter fun n=>decide (QaO S.m (FF.el n:R F.z)=FF.el n)).map fun n=>(FF.el n:R F.z))
  ((kz F ((Tn q' (1:R S.z)).v (S.m - 1))+-(kz F ((1:R S.z).v (S.m - 1)))) :: glE S F q') ?_ ?_ ?_
 ·have I:=ah _ (List.mem_cons_of_mem _ (List.mem_of_getElem? (Qt1 (S:=S) (F:=F) q' (q' - S.m) (by omega))));rw[show q' - 1 - (q' - S.m)=S.m - 1 by omega,show (1:R S.z)=Qet S.z 0 from rfl,Qdr (by omega),Qb6 (by omega),if_pos rfl,Qs0 S.p2]at I;exact QbD I
 ·rw[List.length_cons,Qnx,List.length_map,af]
  show q'+1≤F.p ^ S.m
  rw[←hp,←ab];exact Nat.le_refl _
 ·refine List.pairwise_map.2 (List.Pairwise.imp_of_mem ?_ (List.Pairwise.filter _ (List.nodup_range (n:=FF.q (R F.z)))));intro x y O hy ap e;have ai:=List.mem_range.1 (List.mem_filter.1 O).1;have aj:=List.mem_range.1 (List.mem_filter.1 hy).1;have J:=congrArg FF.code e;rw[FF.code_el x ai,FF.code_el y aj]at J;exact ap J
 ·intro x O;obtain⟨n,hn,rfl⟩:=List.mem_map.1 O;have ak:=ag _ (of_decide_eq_true (List.mem_filter.1 hn).2);generalize (FF.el n:R F.z)=x at *;have I:=Qpr (S:=S) V x S.q;have U:=Qpr (S:=S) V x 1;rw[hT,U,ak,Qii]at I;have J:muV S F x*pev (glE S F S.q) x=muV S F x*pev (glE S F 1) x:=by
   have T:=I;rw[QbV,QbV]at T;have h5:=Qb4 T;rw[←Qg0 (muV S F x*pev (glE S F S.q) x),←h5,Qg0]
  have Y:=QbN (fun e=>aq ⟨x,e⟩) J;rw[ab]at Y
  show kz F ((Tn q' (1:R S.z)).v (S.m - 1))+-(kz F ((1:R S.z).v (S.m - 1)))+x*pev (glE S F q') x=0
  have h7:kz F ((Tn q' (1:R S.z)).v (S.m - 1))+x*pev (glE S F q') x=kz F ((1:R S.z).v (S.m - 1))+x*0:=Y;rw[Qac,Qad]at h7;have h8:∀a b X:R F.z,a+b+X=(a+X)+b:=fun a b X=>by ac_rfl
  rw[h8,h7,QaU]
end
end Cw
namespace Cw
section
variable {F:Type} [CField F]
open CField (inv)
def QwB (n:Nat)(M:Nat→Nat→F)(x:Nat→F):Prop:=∀i,i<n→Qat n (fun j=>M i j*x j)=M i n
def QqJ (n:Nat)(M:Nat→Nat→F)(x:Nat→F):Prop:=∀i,i<n→Qat n (fun j=>M i j*x j)=0
def Qny (n:Nat)(M M':Nat→Nat→F):Prop:=(∀x,QwB n M x↔QwB n M' x)∧∀x,QqJ n M x↔QqJ n M' x
theorem Qny.refl (n:Nat)(M:Nat→Nat→F):Qny n M M:=⟨fun _=>Iff.rfl,fun _=>Iff.rfl⟩
theorem Qny.trans {n:Nat} {M M' I:Nat→Nat→F} (h:Qny n M M')(J:Qny n M' I):Qny n M I:=⟨fun x=>(h.1 x).trans (J.1 x),fun x=>(h.2 x).trans (J.2 x)⟩
def swA (c p:Nat)(M:Nat→Nat→F):Nat→Nat→F:=fun i=>if i=c then M p else if i=p then M c else M i
theorem Qt2 {n c p:Nat} (U:c<n)(hp:p<n)(M:Nat→Nat→F):Qny n M (swA c p M):=by
 have V:∀P:(Nat→F)→Prop,(∀i,i<n→P (M i))↔∀i,i<n→P (swA c p M i):=fun P=>by
  constructor
  ·intro h i J;unfold swA
   split
   ·exact h p hp
   ·split
    ·exact h c U
    ·exact h i J
  ·intro h i J;by_cases O:i=p
   ·have I:=h c U;unfold swA at I;rw[if_pos rfl]at I;rw[O];exact I
   ·by_cases T:i=c
    ·have I:=h p hp;unfold swA at I;by_cases X:p=c
     ·exact absurd (T.trans X.symm) O
     ·rw[if_neg X,if_pos rfl]at I;rw[T];exact I
    ·have I:=h i J;unfold swA at I;rw[if_neg T,if_neg O]at I;exact I
 exact⟨fun x=>V fun r=>Qat n (fun j=>r j*x j)=r n,fun x=>V fun r=>Qat n (fun j=>r j*x j)=0⟩
def scA (c:Nat)(a:F)(M:Nat→Nat→F):Nat→Nat→F:=fun i j=>if i=c then a*M c j else M i j
theorem Qt3 {n c:Nat} {a:F} (T:a≠0)(M:Nat→Nat→F):Qny n M (scA c a M):=by
 have row:∀x:Nat→F,Qat n (fun j=>scA c a M c j*x j)=a*Qat n (fun j=>M c j*x j):=fun x=>by
  rw[←Qal];exact Qaa fun j _=>by unfold scA;rw[if_pos rfl,Qa6]
 have O:∀i,i≠c→scA c a M i=M i:=fun i h=>funext fun j=>if_neg h
 have U:scA c a M c n=a*M c n:=if_pos rfl;refine⟨fun x=>⟨fun h i J=>?_,fun h i J=>?_⟩,fun x=>⟨fun h i J=>?_,fun h i J=>?_⟩⟩
 ·by_cases e:i=c
  ·rw[e,row,U,←e,h i J]
  ·rw[O i e];exact h i J
 ·by_cases e:i=c
  ·have I:=h i J;rw[e,row,U]at I;rw[e];exact QbN T I
  ·have I:=h i J;rw[O i e]at I;exact I
 ·by_cases e:i=c
  ·rw[e,row,←e,h i J,Qac]
  ·rw[O i e];exact h i J
 ·by_cases e:i=c
  ·have I:=h i J;rw[e,row]at I;rw[e];exact (Qbx I).resolve_left T
  ·have I:=h i J;rw[O i e]at I;exact I
def elA (i c:Nat)(a:F)(M:Nat→Nat→F):Nat→Nat→F:=fun k j=>if k=i then M i j - a*M c j else M k j
theorem Qt4 {n i c:Nat} (U:c<n)(Y:i≠c)(a:F)(M:Nat→Nat→F):Qny n M (elA i c a M):=by
 have row:∀x:Nat→F,Qat n (fun j=>elA i c a M i j*x j)=Qat n (fun j=>M i j*x j) - a*Qat n (fun j=>M c j*x j):=fun x=>by
  rw[←Qal,←QdX];exact Qaa fun j _=>by unfold elA;rw[if_pos rfl,QdW,Qa6]
 have O:∀k,k≠i→elA i c a M k=M k:=fun k h=>funext fun j=>if_neg h
 have V:elA i c a M i n=M i n - a*M c n:=if_pos rfl;have X:=O c (fun e=>Y e.symm);refine⟨fun x=>⟨fun h k J=>?_,fun h k J=>?_⟩,fun x=>⟨fun h k J=>?_,fun h k J=>?_⟩⟩
 ·by_cases e:k=i
  ·rw[e,row,V,h c U,←e,h k J]
  ·rw[O k e];exact h k J
 ·by_cases e:k=i
  ·have I:=h k J;have T:=h c U;rw[X]at T;rw[e,row,V,T]at I;rw[e];exact (Qm8.1 I).trans (QbX _ _)
  ·have I:=h k J;rw[O k e]at I;exact I
 ·by_cases e:k=i
  ·rw[e,row,h c U,←e,h k J,Qac,QaV]
  ·rw[O k e];exact h k J
 ·by_cases e:k=i
  ·have I:=h k J;have T:=h c U;rw[X]at T;rw[e,row,T,Qac,Qa3]at I;rw[e];exact I
  ·have I:=h k J;rw[O k e]at I;exact I
def UnA (n c:Nat)(M:Nat→Nat→F):Prop:=∀j,j<c→∀i,i<n→M i j=if i=j then 1 else 0
theorem UnA.sw {n c p:Nat} {M:Nat→Nat→F} (h:UnA n c M)(J:c<n)(hp:c≤p)(O:p<n):UnA n c (swA c p M):=fun j I i T=>by
 unfold swA
 split
 ·rename_i e
  rw[h j I p O,if_neg (by omega),if_neg (by omega)]
 ·split
  ·rw[h j I c J,if_neg (by omega),if_neg (by omega)]
  ·exact h j I i T
theorem UnA.sc {n c:Nat} {a:F} {M:Nat→Nat→F} (h:UnA n c M)(J:c<n):UnA n c (scA c a M):=fun j I i O=>by
 unfold scA
 split
 ·rw[h j I c J,if_neg (by omega),Qac,if_neg (by omega)]
 ·exact h j I i O
theorem UnA.el {n c i:Nat} {a:F} {M:Nat→Nat→F} (h:UnA n c M)(O:c<n):UnA n c (elA i c a M):=fun j I k J=>by
 unfold elA
 split
 ·rename_i e
  rw[h j I c O,if_neg (by omega:¬ c=j),Qac,Qa3,←e];exact h j I k J
 ·exact h j I k J
def CoA (c i:Nat)(M:Nat→Nat→F):Prop:=M c c=1∧∀k,k<i→k≠c→M k c=0
theorem CoA.zero {c:Nat} {M:Nat→Nat→F} (h:M c c=1):CoA c 0 M:=⟨h,fun _ I=>absurd I (Nat.not_lt_zero _)⟩
theorem CoA.skip {c i:Nat} {M:Nat→Nat→F} (h:CoA c i M)(O:i=c∨M i c=0):CoA c (i+1) M:=⟨h.1,fun k T J=>by
 by_cases e:k=i
 ·rcases O with I |I
  ·exact absurd (e.trans I) J
  ·rw[e];exact I
 ·exact h.2 k (by omega) J⟩
theorem CoA.el {c i:Nat} {M:Nat→Nat→F} (h:CoA c i M)(I:i≠c):CoA c (i+1) (elA i c (M i c) M):=⟨by
 unfold elA;rw[if_neg (fun e=>I e.symm)];exact h.1,fun k O J=>by
 unfold elA
 split
 ·rw[h.1,Qax,QaV]
 ·rename_i e
  exact h.2 k (by omega) J⟩
theorem UnA.next {n c:Nat} {M:Nat→Nat→F} (h:UnA n c M)(J:CoA c n M):UnA n (c+1) M:=fun j T i O=>by
 by_cases e:j=c
 ·rw[e];by_cases I:i=c
  ·rw[I,if_pos rfl];exact J.1
  ·rw[if_neg I];exact J.2 i O I
 ·exact h j (by omega) i O
theorem Qt5 {c:Nat} {M:Nat→Nat→F} (h:M c c≠0):scA c (inv (M c c)) M c c=1:=by
 unfold scA;rw[if_pos rfl,QbH h]
theorem Qvz {n c:Nat} {M:Nat→Nat→F} (h:UnA n c M)(O:c<n)(hz:∀i,c≤i→i<n→M i c=0):∃x,(∃j,j<n∧x j≠0)∧QqJ n M x:=by
 refine⟨fun j=>if j<c then M j c else if j=c then -1 else 0,⟨c,O,?_⟩,fun i J=>?_⟩
 ·show (if c<c then M c c else if c=c then -1 else 0)≠0
  rw[if_neg (Nat.lt_irrefl _),if_pos rfl];exact fun e=>QbD (F:=F) (by rw[←Qg0 (1:F),e,QcT])
 ·obtain⟨d,U⟩:∃d,n=c+1+d:=⟨n - c - 1,by omega⟩;have T:Qat c (fun j=>M i j*(if j<c then M j c else if j=c then -1 else 0))=if i<c then M i c else 0:=by
   rw[Qaa (g:=fun j=>(if i=j then 1 else 0)*M j c) fun j I=>by rw[if_pos I,h j I i J]];by_cases e:i<c
   ·rw[if_pos e,Qak e fun j _ V=>by rw[if_neg (fun e=>V e.symm),Qah],if_pos rfl,Qav]
   ·rw[if_neg e];exact Qag fun j I=>by rw[if_neg (by omega),Qah]
  show Qat n (fun j=>M i j*(if j<c then M j c else if j=c then -1 else 0))=0
  rw[U,Qco,Qaj,T,Qag (n:=d) fun j _=>by rw[if_neg (by omega),if_neg (by omega),Qac],Qad,
   if_neg (Nat.lt_irrefl _),if_pos rfl,Qe3,Qax]
  by_cases e:i<c
  ·rw[if_pos e,QaU]
  ·rw[if_neg e,hz i (by omega) J,QcT,Qad]
theorem UnA.sum {n:Nat} {M:Nat→Nat→F} (h:UnA n n M){i:Nat} (I:i<n)(x:Nat→F):Qat n (fun j=>M i j*x j)=x i:=by
 rw[Qak (k:=i) I fun j J O=>by rw[h j J i I,if_neg (fun e=>O e.symm),Qah],h i I i I,if_pos rfl,Qav]
theorem UnA.sol {n:Nat} {M:Nat→Nat→F} (h:UnA n n M)(x:Nat→F):QwB n M x↔∀i,i<n→x i=M i n :=
 ⟨fun J i I=>by rw[←h.sum I x];exact J i I,fun J i I=>by rw[h.sum I x];exact J i I⟩
theorem UnA.ker {n:Nat} {M:Nat→Nat→F} (h:UnA n n M){x:Nat→F} (J:QqJ n M x):∀i,i<n→x i=0:=fun i I=>by rw[←h.sum I x];exact J i I
end
end Cw
namespace Cw
section
variable {F:Type} [FF F]
open CField (inv)
open FF (p q M el code gen M_pos)
def QjN (d n:Nat)(l:Nat→F):Prop:=∀c:Nat→F,(∀j,j<n→Qbq d (c j))→Qat n (fun j=>c j*l j)=0→∀j,j<n→c j=0
def Qs2 (d n:Nat)(l b:Nat→F):Nat→Nat→F:=fun i j=>if j<n then QaO (d*i) (l j) else b i
theorem Qmo (d n:Nat)(l b x:Nat→F)(i:Nat):Qat n (fun j=>Qs2 d n l b i j*x j)=Qat n (fun j=>QaO (d*i) (l j)*x j) :=
 Qaa fun j I=>by unfold Qs2;rw[if_pos I]
theorem Qmp {d n:Nat} {l b x:Nat→F}:QqJ n (Qs2 d n l b) x↔∀i,i<n→Qat n (fun j=>QaO (d*i) (l j)*x j)=0:=by
 unfold QqJ;exact⟨fun h i I=>by have:=h i I;rwa [Qmo]at this,fun h i I=>by rw[Qmo];exact h i I⟩
theorem Qmq {d n:Nat} (I:d*n=M F){i k:Nat} (y:F)(h:i % n=k % n):QaO (d*i) y=QaO (d*k) y:=by
 have e:∀i,QaO (d*i) y=QaO (d*(i % n)) y:=fun i=>by
  conv=>lhs;rw[←Nat.div_add_mod i n]
  rw[Nat.mul_add,Nat.add_comm,←Qbz,←Nat.mul_assoc,I,QjS]
 rw[e i,h,←e k]
theorem Qrk {d n:Nat} (I:d*n=M F){i:Nat} (O:i<n):∃k,k<n∧∀y:F,QaO d (QaO (d*k) y)=QaO (d*i) y:=by
 refine⟨(i+(n - 1)) % n,Nat.mod_lt _ (by omega),fun y=>?_⟩;have J:QaO d (QaO (d*((i+(n - 1)) % n)) y)=QaO (d*((i+(n - 1)) % n+1)) y:=by rw[Qbz,Nat.mul_succ,Nat.add_comm]
 rw[J];refine Qmq I y ?_;rw[Nat.mod_add_mod,show i+(n - 1)+1=i+n by omega,Nat.add_mod_right]
theorem Qrl {d n:Nat} (I:d*n=M F){l x:Nat→F} {u:F} (h:∀i,i<n→Qat n (fun j=>QaO (d*i) (l j)*x j)=QaO (d*i) u):∀i,i<n→Qat n (fun j=>QaO (d*i) (l j)*QaO d (x j))=QaO (d*i) u:=fun i O=>by
 obtain⟨k,J,e⟩:=Qrk (F:=F) I O;rw[←e u,←h k J,Qer];exact Qaa fun j _=>by rw[QeJ,e]
theorem Qrm {d n:Nat} (O:d*n=M F){l x:Nat→F} (h:∀i,i<n→Qat n (fun j=>QaO (d*i) (l j)*x j)=0)(k:Nat):∀i,i<n→Qat n (fun j=>QaO (d*i) (l j)*QaO (d*k) (x j))=0:=by
 induction k with
 |zero=>intro i I;rw[←h i I];exact Qaa fun j _=>by rw[Nat.mul_zero,Qa7]
 |succ k ih =>
  intro i I;have J:=Qrl O (l:=l) (x:=fun j=>QaO (d*k) (x j)) (u:=0) (fun i I=>by rw[Qb5];exact ih i I) i I;rw[Qb5]at J;rw[←J];exact Qaa fun j _=>by rw[Qbz,Nat.mul_succ,Nat.add_comm]
theorem QwU {d n:Nat} (I:d*n=M F)(J:1≤n):M F / d=n:=by
 have h0:0<d:=Nat.pos_of_ne_zero fun e=>by have:=M_pos (F:=F);rw[←I,e,Nat.zero_mul]at this;omega
 rw[←I,Nat.mul_div_cancel_left _ h0]
theorem Qu3 {d n:Nat} (I:d*n=M F)(J:1≤n)(x:F):tr d x=Qat n (fun i=>QaO (d*i) x):=by unfold tr;rw[QwU I J]
theorem Qnz {d n:Nat} {l b:Nat→F} (h:∀x,QqJ n (Qs2 d n l b) x→∀j,j<n→x j=0):QjN d n l:=fun c J hz=>by
 refine h c (Qmp.2 fun i _=>?_);have I:=congrArg (QaO (d*i)) hz;rw[Qer,Qb5]at I;rw[←I];exact Qaa fun j O=>by rw[QeJ,QcM (J j O),Qb3]
theorem QnA {d n:Nat} (I:d*n=M F)(T:1≤d)(U:1≤n){l b:Nat→F} (h:QjN d n l){x:Nat→F} (V:QqJ n (Qs2 d n l b) x):∀j,j<n→x j=0:=fun O ad=>by
 refine Classical.byContradiction fun hx=>?_
 have J:d∣M F:=⟨n,I.symm⟩;obtain⟨y,hy⟩:=QoU (F:=F) J T;have X:=Qmp.1 V;obtain⟨a,ha⟩:=ε (y*inv (x O));have Y:∀i,i<n→Qat n (fun j=>QaO (d*i) (l j)*(a*x j))=0:=fun i hi=>by
  rw[Qaa (g:=fun j=>a*(QaO (d*i) (l j)*x j)) fun j _=>QgZ _ _ _,Qal,X i hi,Qac]
 have h0:=h (fun j=>tr d (a*x j)) (fun j _=>Ql5 J _) (by
  rw[Qaa (g:=fun j=>Qat n fun k=>QaO (d*k) (a*x j)*l j) fun j _=>by rw[Qu3 I U,Qar],QaX];refine Qag fun k _=>?_
  have h2:=Qrm I Y k 0 (by omega);rw[←h2];exact Qaa fun j _=>by rw[Nat.mul_zero,Qa7,Qb3]) O ad
 rw[ha,Qa6,QbH hx,Qax]at h0;exact hy h0
def e0:Nat→F:=fun i=>if i=0 then 1 else 0
theorem Qs3 {d n:Nat} (I:d*n=M F)(J:1≤n){c:F} (O:Qbq d c)(x:F):tr d (c*x)=c*tr d x:=by
 rw[Qu3 I J,Qu3 I J,←Qal];exact Qaa fun i _=>by rw[QeJ,QcM O]
theorem QgR (d:Nat):tr d (0:F)=0:=by
 unfold tr;exact Qag fun i _=>Qb5 _
theorem Qlr (d n:Nat)(f:Nat→F):tr d (Qat n f)=Qat n fun j=>tr d (f j):=by
 induction n with
 |zero=>exact QgR d
 |succ n ih=>rw[Qaj,QsF,ih,Qaj]
theorem Qrn {d n:Nat} (O:d*n=M F)(T:1≤n){l m:Nat→F} (h:∀s t,s<n→t<n→tr d (l t*m s)=if t=s then 1 else 0):QjN d n m:=fun c V hz i I=>by
 have U:tr d (Qat n (fun j=>c j*m j)*l i)=c i:=by
  rw[←Qar,Qlr,Qaa (g:=fun j=>c j*if i=j then 1 else 0) fun j J=>by rw[Qa6,Qs3 O T (V j J),Qb3 (m j),h j i J I],
   Qak (k:=i) I fun j _ X=>by rw[if_neg (fun e=>X e.symm),Qac],if_pos rfl,Qax]
 rw[←U,hz,Qah,QgR]
end
end Cw
namespace Go.Proofs
open Go.RowKit Cw
theorem Qbl {p:Nat} (h:2≤p)(J:∀d:Fin (p+1),d.val∣p→d.val=1∨d.val=p):Qg3 p:=⟨h,fun d I=>J ⟨d,by have:=Nat.le_of_dvd (by omega) I;omega⟩ I⟩
theorem Qcg {l:List Nat} {p:Nat} (h0:0<p)(h:∀x∈l,x<p)(j:Nat):l.getD j 0<p:=by
 rw[List.getD_eq_getElem?_getD];by_cases I:j<l.length
 ·rw[List.getElem?_eq_getElem I];exact h _ (List.getElem_mem _)
 ·rw[List.getElem?_eq_none (by omega)];exact h0
theorem Qch {p m:Nat} {I:Nat→Nat} (h:∀d:Fin 5,1≤d.val→2*d.val≤m→∀v:Fin (p ^ d.val),dvB p d.val m (dg p v.val) I=false)(U:m≤8):Qfs p m I=true :=
 QfG fun d J O v T=>h ⟨d,by omega⟩ J O ⟨v,T⟩
def mN (D:Desc)(a b:Nat):Nat:=QaA (rel D a*rel D b)
def aN (D:Desc)(a b:Nat):Nat:=QaA (rel D a+rel D b)
def pN (D:Desc)(a:Nat):Nat→Nat
 |0=>1
 |k+1=>mN D (pN D a k) a
def fN (D:Desc)(a:Nat):Nat→Nat
 |0=>a
 |k+1=>pN D (fN D a k) D.p
def tN (D:Desc)(d a:Nat):Nat→Nat
 |0=>0
 |k+1=>aN D (tN D d a k) (fN D a (d*k))
theorem Qs4 (D:Desc)(a b:Nat):rel D (mN D a b)=rel D a*rel D b:=QaT _
theorem QvA (D:Desc)(a b:Nat):rel D (aN D a b)=rel D a+rel D b:=QaT _
theorem Qs5 (S:FD)(a:Nat):∀k,rel S.z (pN S.z a k)=pw (rel S.z a) k
 |0=>by rw[QbK];show rel S.z 1=1;rw[←Qcx (D:=S.z),QaT]
 |k+1=>by show rel S.z (mN S.z (pN S.z a k) a)=_;rw[Qs4,Qs5 S a k,Qbi]
theorem Qpt (S:FD)(a:Nat):∀k,rel S.z (fN S.z a k)=QaO k (rel S.z a)
 |0=>(Qa7 _).symm
 |k+1=>by show rel S.z (pN S.z (fN S.z a k) S.p)=_;rw[Qs5,Qpt S a k,QdF];rfl
theorem Qs6 (S:FD)(d a:Nat):∀k,rel S.z (tN S.z d a k)=Qat k fun i=>QaO (d*i) (rel S.z a)
 |0=>QiV
 |k+1=>by show rel S.z (aN S.z (tN S.z d a k) (fN S.z a (d*k)))=_;rw[QvA,Qs6 S d a k,Qpt,Qaj]
def DuP (F:FD)(d n:Nat)(u w:R F.z):Prop:=∀j,j<n→tr d (w*QaO (d*j) u)=if j=0 then 1 else 0
theorem DuP.of_dec (S:FD){d n u w:Nat} (J:d*n=S.m)(O:1≤n)(h:∀j:Fin n,tN S.z d (mN S.z w (fN S.z u (d*j.val))) n=if j.val=0 then 1 else 0):DuP S d n (rel S.z u) (rel S.z w):=fun j U=>by
 have T:=h ⟨j,U⟩;have I:=congrArg (rel S.z) T;rw[Qs6,Qs4,Qpt]at I;rw[Qu3 (F:=R S.z) J O];rw[I];dsimp only;by_cases e:j=0
 ·rw[if_pos e,if_pos e,←Qcx (D:=S.z),QaT]
 ·rw[if_neg e,if_neg e,QiV]
theorem Qmr {S F:FD} (hp:S.p=F.p){r:R F.z} (h0:muV S F r=0)(k:Nat)(x:R S.z):phi S F r (QaO k x)=QaO k (phi S F r x):=by
 have I:nsm S.p (1:R F.z)=0:=by rw[hp];exact Qfx
 unfold QaO;rw[Qpq I h0]
 show pw (phi S F r x) (S.p ^ k)=pw (phi S F r x) (F.p ^ k)
 rw[hp]
theorem Qjg {S F:FD} (hp:S.p=F.p)(r:R F.z)(n:Nat)(f:Nat→R S.z):phi S F r (Qat n f)=Qat n fun i=>phi S F r (f i):=by
 have I:nsm S.p (1:R F.z)=0:=by rw[hp];exact Qfx
 induction n with
 |zero=>exact QcZ r
 |succ n ih=>rw[Qaj,Qpp I,ih,Qaj]
theorem DuP.carry {S F:FD} (hp:S.p=F.p)(I:S.m=F.m){d n:Nat} (J:d*n=F.m)(O:1≤n){u w:R S.z} (h:DuP S d n u w):∃V w':R F.z,DuP F d n V w':=by
 have T:nsm S.p (1:R F.z)=0:=by rw[hp];exact Qfx
 obtain⟨r,h0⟩:=Qps hp T (by rw[I];exact Nat.dvd_refl _);refine⟨phi S F r u,phi S F r w,fun j U=>?_⟩;rw[←Qmr hp h0,←Qhr T h0,Qu3 (F:=R F.z) J O,Qaa (g:=fun i=>phi S F r (QaO (d*i) (w*QaO (d*j) u))) fun i _=>(Qmr hp h0 _ _).symm,←Qjg hp,
  ←Qu3 (F:=R S.z) (by rw[J];exact I.symm) O,h j U]
 by_cases e:j=0
 ·rw[if_pos e,if_pos e,Qhs]
 ·rw[if_neg e,if_neg e,QcZ]
theorem DuP.ind {F:FD} {d n:Nat} (U:d*n=F.m)(V:1≤n){u w:R F.z} (h:DuP F d n u w):QjN d n fun i=>QaO (d*i) u:=by
 have J:d*n=FF.M (R F.z):=U;have Y:d∣FF.M (R F.z):=⟨n,J.symm⟩;refine Qrn J V (l:=fun i=>QaO (d*i) w) fun s t hs ht=>?_
 obtain⟨j,O⟩:=ε ((s+(n - t)) % n);have X:j<n:=by rw[O];exact Nat.mod_lt _ (by omega)
 have e:QaO (d*s) u=QaO (d*t) (QaO (d*j) u):=by
  rw[Qbz,←Nat.mul_add];refine Qmq J u ?_;rw[O,Nat.add_mod_mod,show t+(s+(n - t))=s+n by omega,Nat.add_mod_right]
 show tr d (QaO (d*t) w*QaO (d*s) u)=if t=s then 1 else 0
 rw[e,←QeJ,Qne,h j X];have T:j=0↔t=s:=by
  rw[O];constructor
  ·intro h0;by_cases ac:s<t
   ·rw[Nat.mod_eq_of_lt (by omega)]at h0;omega
   ·rw[show s+(n - t)=(s - t)+n by omega,Nat.add_mod_right,Nat.mod_eq_of_lt (by omega)]at h0;omega
  ·intro h0;rw[show s+(n - t)=n by omega,Nat.mod_self]
 by_cases I:t=s
 ·rw[if_pos I,if_pos (T.2 I),QgI]
 ·rw[if_neg I,if_neg (fun h=>I (T.1 h)),Qb5]
theorem QwV (D:Desc)(h:Qfs D.p D.m (fun i=>D.mod.getD i 0)=true):∃S:FD,S.z=D:=by
 obtain⟨u,I⟩:=QcF (D:=D) ⟨D,rfl,rfl,rfl,.inr h⟩;exact⟨Qvk D u I,rfl⟩
theorem Qdl (D:Desc)(h:Qfs D.p D.m (fun i=>D.mod.getD i 0)=true)(F:FD)(hp:D.p=F.p)(I:D.m=F.m){d n u w:Nat} (J:d*n=D.m)(O:1≤n)(T:∀j:Fin n,tN D d (mN D w (fN D u (d*j.val))) n=if j.val=0 then 1 else 0):∃U w':R F.z,DuP F d n U w':=by
 obtain⟨S,rfl⟩:=QwV D h;exact DuP.carry hp I (by rw[J,I]) O (DuP.of_dec S J O T)
def QwC:Desc where
 p:=2
 m:=2
 mod:=[1,1]
 hp:=Qbl (by decide) (by decide)
 m1:=by decide
 m8:=by decide
 hq:=by decide
 hlen:=by decide
 hmod:=Qcg (by decide) (by decide)
theorem Qro:Qfs QwC.p QwC.m (fun i=>QwC.mod.getD i 0)=true:=Qch (by decide +kernel) (by decide)
theorem QvB (F:FD)(hp:2=F.p)(I:2=F.m):∃u w:R F.z,DuP F 1 2 u w:=Qdl QwC Qro F hp I (u:=2) (w:=2) (by decide) (by decide) (by decide +kernel)
def QwD:Desc where
 p:=2
 m:=3
 mod:=[1,1,0]
 hp:=Qbl (by decide) (by decide)
 m1:=by decide
 m8:=by decide
 hq:=by decide
 hlen:=by decide
 hmod:=Qcg (by decide) (by decide)
theorem Qrp:Qfs QwD.p QwD.m (fun i=>QwD.mod.getD i 0)=true:=Qch (by decide +kernel) (by decide)
theorem QvC (F:FD)(hp:2=F.p)(I:3=F.m):∃u w:R F.z,DuP F 1 3 u w:=Qdl QwD Qrp F hp I (u:=3) (w:=3) (by decide) (by decide) (by decide +kernel)
def QvD:Desc where
 p:=2
 m:=4
 mod:=[1,1,0,0]
 hp:=Qbl (by decide) (by decide)
 m1:=by decide
 m8:=by decide
 hq:=by decide
 hlen:=by decide
 hmod:=Qcg (by decide) (by decide)
theorem Qms:Qfs QvD.p QvD.m (fun i=>QvD.mod.getD i 0)=true:=Qch (by decide +kernel) (by decide)
theorem QvE (F:FD)(hp:2=F.p)(I:4=F.m):∃u w:R F.z,DuP F 1 4 u w:=Qdl QvD Qms F hp I (u:=8) (w:=14) (by decide) (by decide) (by decide +kernel)
theorem QvF (F:FD)(hp:2=F.p)(I:4=F.m):∃u w:R F.z,DuP F 2 2 u w:=Qdl QvD Qms F hp I (u:=2) (w:=2) (by decide) (by decide) (by decide +kernel)
def QwE:Desc where
 p:=2
 m:=5
 mod:=[1,0,1,0,0]
 hp:=Qbl (by decide) (by decide)
 m1:=by decide
 m8:=by decide
 hq:=by decide
 hlen:=by decide
 hmod:=Qcg (by decide) (by decide)
theorem Qrq:Qfs QwE.p QwE.m (fun i=>QwE.mod.getD i 0)=true:=Qch (by decide +kernel) (by decide)
theorem QvG (F:FD)(hp:2=F.p)(I:5=F.m):∃u w:R F.z,DuP F 1 5 u w:=Qdl QwE Qrq F hp I (u:=3) (w:=3) (by decide) (by decide) (by decide +kernel)
def Qu4:Desc where
 p:=2
 m:=6
 mod:=[1,1,0,0,0,0]
 hp:=Qbl (by decide) (by decide)
 m1:=by decide
 m8:=by decide
 hq:=by decide
 hlen:=by decide
 hmod:=Qcg (by decide) (by decide)
theorem Qjh:Qfs Qu4.p Qu4.m (fun i=>Qu4.mod.getD i 0)=true:=Qch (by decide +kernel) (by decide)
theorem QvH (F:FD)(hp:2=F.p)(I:6=F.m):∃u w:R F.z,DuP F 1 6 u w:=Qdl Qu4 Qjh F hp I (u:=32) (w:=46) (by decide) (by decide) (by decide +kernel)
theorem QvI (F:FD)(hp:2=F.p)(I:6=F.m):∃u w:R F.z,DuP F 2 3 u w:=Qdl Qu4 Qjh F hp I (u:=2) (w:=12) (by decide) (by decide) (by decide +kernel)
theorem QvJ (F:FD)(hp:2=F.p)(I:6=F.m):∃u w:R F.z,DuP F 3 2 u w:=Qdl Qu4 Qjh F hp I (u:=2) (w:=48) (by decide) (by decide) (by decide +kernel)
def QwF:Desc where
 p:=2
 m:=7
 mod:=[1,1,0,0,0,0,0]
 hp:=Qbl (by decide) (by decide)
 m1:=by decide
 m8:=by decide
 hq:=by decide
 hlen:=by decide
 hmod:=Qcg (by decide) (by decide)
theorem Qrr:Qfs QwF.p QwF.m (fun i=>QwF.mod.getD i 0)=true:=Qch (by decide +kernel) (by decide)
theorem QvK (F:FD)(hp:2=F.p)(I:7=F.m):∃u w:R F.z,DuP F 1 7 u w:=Qdl QwF Qrr F hp I (u:=9) (w:=35) (by decide) (by decide) (by decide +kernel)
def Qu5:Desc where
 p:=2
 m:=8
 mod:=[1,1,0,1,1,0,0,0]
 hp:=Qbl (by decide) (by decide)
 m1:=by decide
 m8:=by decide
 hq:=by decide
 hlen:=by decide
 hmod:=Qcg (by decide) (by decide)
theorem Qji:Qfs Qu5.p Qu5.m (fun i=>Qu5.mod.getD i 0)=true:=Qch (by decide +kernel) (by decide)
theorem QvL (F:FD)(hp:2=F.p)(I:8=F.m):∃u w:R F.z,DuP F 1 8 u w:=Qdl Qu5 Qji F hp I (u:=32) (w:=52) (by decide) (by decide) (by decide +kernel)
theorem QvM (F:FD)(hp:2=F.p)(I:8=F.m):∃u w:R F.z,DuP F 2 4 u w:=Qdl Qu5 Qji F hp I (u:=2) (w:=14) (by decide) (by decide) (by decide +kernel)
theorem QvN (F:FD)(hp:2=F.p)(I:8=F.m):∃u w:R F.z,DuP F 4 2 u w:=Qdl Qu5 Qji F hp I (u:=2) (w:=121) (by decide) (by decide) (by decide +kernel)
def QwG:Desc where
 p:=3
 m:=2
 mod:=[1,0]
 hp:=Qbl (by decide) (by decide)
 m1:=by decide
 m8:=by decide
 hq:=by decide
 hlen:=by decide
 hmod:=Qcg (by decide) (by decide)
theorem Qrs:Qfs QwG.p QwG.m (fun i=>QwG.mod.getD i 0)=true:=Qch (by decide +kernel) (by decide)
theorem QvO (F:FD)(hp:3=F.p)(I:2=F.m):∃u w:R F.z,DuP F 1 2 u w:=Qdl QwG Qrs F hp I (u:=4) (w:=7) (by decide) (by decide) (by decide +kernel)
def QwH:Desc where
 p:=3
 m:=3
 mod:=[1,2,0]
 hp:=Qbl (by decide) (by decide)
 m1:=by decide
 m8:=by decide
 hq:=by decide
 hlen:=by decide
 hmod:=Qcg (by decide) (by decide)
theorem Qrt:Qfs QwH.p QwH.m (fun i=>QwH.mod.getD i 0)=true:=Qch (by decide +kernel) (by decide)
theorem QvP (F:FD)(hp:3=F.p)(I:3=F.m):∃u w:R F.z,DuP F 1 3 u w:=Qdl QwH Qrt F hp I (u:=9) (w:=10) (by decide) (by decide) (by decide +kernel)
def QvQ:Desc where
 p:=3
 m:=4
 mod:=[2,1,0,0]
 hp:=Qbl (by decide) (by decide)
 m1:=by decide
 m8:=by decide
 hq:=by decide
 hlen:=by decide
 hmod:=Qcg (by decide) (by decide)
theorem Qmt:Qfs QvQ.p QvQ.m (fun i=>QvQ.mod.getD i 0)=true:=Qch (by decide +kernel) (by decide)
theorem QvR (F:FD)(hp:3=F.p)(I:4=F.m):∃u w:R F.z,DuP F 1 4 u w:=Qdl QvQ Qmt F hp I (u:=4) (w:=7) (by decide) (by decide) (by decide +kernel)
theorem QvS (F:FD)(hp:3=F.p)(I:4=F.m):∃u w:R F.z,DuP F 2 2 u w:=Qdl QvQ Qmt F hp I (u:=3) (w:=63) (by decide) (by decide) (by decide +kernel)
def QwI:Desc where
 p:=3
 m:=5
 mod:=[1,2,0,0,0]
 hp:=Qbl (by decide) (by decide)
 m1:=by decide
 m8:=by decide
 hq:=by decide
 hlen:=by decide
 hmod:=Qcg (by decide) (by decide)
theorem Qru:Qfs QwI.p QwI.m (fun i=>QwI.mod.getD i 0)=true:=Qch (by decide +kernel) (by decide)
theorem QvT (F:FD)(hp:3=F.p)(I:5=F.m):∃u w:R F.z,DuP F 1 5 u w:=Qdl QwI Qru F hp I (u:=4) (w:=171) (by decide) (by decide) (by decide +kernel)
def QwJ:Desc where
 p:=5
 m:=2
 mod:=[2,0]
 hp:=Qbl (by decide) (by decide)
 m1:=by decide
 m8:=by decide
 hq:=by decide
 hlen:=by decide
 hmod:=Qcg (by decide) (by decide)
theorem Qrv:Qfs QwJ.p QwJ.m (fun i=>QwJ.mod.getD i 0)=true:=Qch (by decide +kernel) (by decide)
theorem QvU (F:FD)(hp:5=F.p)(I:2=F.m):∃u w:R F.z,DuP F 1 2 u w:=Qdl QwJ Qrv F hp I (u:=6) (w:=19) (by decide) (by decide) (by decide +kernel)
def QwK:Desc where
 p:=5
 m:=3
 mod:=[1,1,0]
 hp:=Qbl (by decide) (by decide)
 m1:=by decide
 m8:=by decide
 hq:=by decide
 hlen:=by decide
 hmod:=Qcg (by decide) (by decide)
theorem Qrw:Qfs QwK.p QwK.m (fun i=>QwK.mod.getD i 0)=true:=Qch (by decide +kernel) (by decide)
theorem QvV (F:FD)(hp:5=F.p)(I:3=F.m):∃u w:R F.z,DuP F 1 3 u w:=Qdl QwK Qrw F hp I (u:=6) (w:=19) (by decide) (by decide) (by decide +kernel)
def QwL:Desc where
 p:=7
 m:=2
 mod:=[1,0]
 hp:=Qbl (by decide) (by decide)
 m1:=by decide
 m8:=by decide
 hq:=by decide
 hlen:=by decide
 hmod:=Qcg (by decide) (by decide)
theorem Qrx:Qfs QwL.p QwL.m (fun i=>QwL.mod.getD i 0)=true:=Qch (by decide +kernel) (by decide)
theorem QvW (F:FD)(hp:7=F.p)(I:2=F.m):∃u w:R F.z,DuP F 1 2 u w:=Qdl QwL Qrx F hp I (u:=8) (w:=37) (by decide) (by decide) (by decide +kernel)
def Qry:Desc where
 p:=11
 m:=2
 mod:=[1,0]
 hp:=Qbl (by decide) (by decide)
 m1:=by decide
 m8:=by decide
 hq:=by decide
 hlen:=by decide
 hmod:=Qcg (by decide) (by decide)
theorem Qpu:Qfs Qry.p Qry.m (fun i=>Qry.mod.getD i 0)=true:=Qch (by decide +kernel) (by decide)
theorem Qt6 (F:FD)(hp:11=F.p)(I:2=F.m):∃u w:R F.z,DuP F 1 2 u w:=Qdl Qry Qpu F hp I (u:=12) (w:=91) (by decide) (by decide) (by decide +kernel)
def Qrz:Desc where
 p:=13
 m:=2
 mod:=[2,0]
 hp:=Qbl (by decide) (by decide)
 m1:=by decide
 m8:=by decide
 hq:=by decide
 hlen:=by decide
 hmod:=Qcg (by decide) (by decide)
theorem Qpv:Qfs Qrz.p Qrz.m (fun i=>Qrz.mod.getD i 0)=true:=Qch (by decide +kernel) (by decide)
theorem Qt7 (F:FD)(hp:13=F.p)(I:2=F.m):∃u w:R F.z,DuP F 1 2 u w:=Qdl Qrz Qpv F hp I (u:=14) (w:=114) (by decide) (by decide) (by decide +kernel)
theorem QdM:∀M d n:Fin 9,2≤M.val→M.val=d.val*n.val→2≤n.val→(M.val=2∧d.val=1∧n.val=2)∨(M.val=3∧d.val=1∧n.val=3)∨(M.val=4∧d.val=1∧n.val=4)∨(M.val=4∧d.val=2∧n.val=2)∨(M.val=5∧d.val=1∧n.val=5)∨(M.val=6∧d.val=1∧n.val=6)∨(M.val=6∧d.val=2∧n.val=3)∨(M.val=6∧d.val=3∧n.val=2)∨(M.val=7∧d.val=1∧n.val=7)∨(M.val=8∧d.val=1∧n.val=8)∨(M.val=8∧d.val=2∧n.val=4)∨(M.val=8∧d.val=4∧n.val=2):=by decide +kernel
theorem Qpw (F:FD){d:Nat} (hd:d∣F.m)(h1:1≤d):∃u:R F.z,QjN d (F.m / d) fun i=>QaO (d*i) u:=by
 obtain⟨n,T⟩:=hd;have au:=F.m1;have ae:1≤n:=Nat.pos_of_ne_zero fun e=>by rw[e,Nat.mul_zero]at T;omega
 have hq:F.p ^ F.m≤256:=F.hq;have ai:=F.m8;have aj:=F.p2;have ad:=F.hp;rw[T,Nat.mul_div_cancel_left _ h1];by_cases e1:n=1
 ·subst e1;refine⟨1,fun c _ hz j hj=>?_⟩;obtain rfl:j=0:=by omega
  rw[Qaj,QaG,Qai]at hz;have ak:c 0*QaO (d*0) 1=0:=hz
  rwa [QgI,Qax]at ak
 ·have al:∃u w:R F.z,DuP F d n u w:=by
   have V:2≤F.m:=by rw[T];exact τ (by omega:2≤1*n) (Nat.mul_le_mul_right n h1)
   have am:F.p≤16:=by
    have h3:=Nat.pow_le_pow_right (n:=F.p) (by omega) V;rw[Nat.pow_two]at h3;refine Nat.le_of_not_lt fun h=>?_
    have h4:17*17≤F.p*F.p:=Nat.mul_le_mul h h;omega
   have an:d≤F.m:=by rw[T];exact τ (by omega:d≤d*1) (Nat.mul_le_mul_left d ae)
   have ao:n≤F.m:=by rw[T];exact τ (by omega:n≤1*n) (Nat.mul_le_mul_right n h1)
   obtain⟨P,I⟩:=ε (F.p);obtain⟨M,J⟩:=ε (F.m);rw[←I,←J]at hq;rw[←I]at am aj ad;rw[←J]at ai V an ao T;have ap:P=2∨P=3∨P=5∨P=7∨P=11∨P=13:=by
    have aq:∀k:Fin 17,k.val=P→P=2∨P=3∨P=5∨P=7∨P=11∨P=13:=fun k hk=>by
     have h2:=ad.2 2;have h3:=ad.2 3;have aw:=k.2;rcases (by omega:P=2∨P=3∨P=5∨P=7∨P=11∨P=13∨P=4∨P=6∨P=8∨P=9∨P=10∨P=12∨P=14∨P=15∨P=16) with e |e |e |e |e |e |e |e |e |e |e |e |e |e |e
     all_goals first
      |omega
      |(exfalso;rw[e]at h2;have:=h2 (by decide);omega)
      |(exfalso;rw[e]at h3;have:=h3 (by decide);omega)
    exact aq ⟨P,by omega⟩ rfl
   rcases ap with rfl |rfl |rfl |rfl |rfl |rfl
   ·have X:M≤8:=Nat.le_of_not_lt fun h=>by
     have U:=Nat.pow_le_pow_right (n:=2) (by decide) h;have Y:2 ^ (8+1)≤2 ^ M:=U;have h7:256<2 ^ (8+1):=by decide
     omega
    have O:=QdM ⟨M,by omega⟩ ⟨d,by omega⟩ ⟨n,by omega⟩ V T (by show 2≤n;omega);dsimp only at O;rcases O with ⟨rfl,rfl,rfl⟩ |⟨rfl,rfl,rfl⟩ |⟨rfl,rfl,rfl⟩ |⟨rfl,rfl,rfl⟩ |⟨rfl,rfl,rfl⟩ |⟨rfl,rfl,rfl⟩ |⟨rfl,rfl,rfl⟩ |⟨rfl,rfl,rfl⟩ |⟨rfl,rfl,rfl⟩ |⟨rfl,rfl,rfl⟩ |⟨rfl,rfl,rfl⟩ |⟨rfl,rfl,rfl⟩
    ·exact QvB F I J
    ·exact QvC F I J
    ·exact QvE F I J
    ·exact QvF F I J
    ·exact QvG F I J
    ·exact QvH F I J
    ·exact QvI F I J
    ·exact QvJ F I J
    ·exact QvK F I J
    ·exact QvL F I J
    ·exact QvM F I J
    ·exact QvN F I J
   ·have X:M≤5:=Nat.le_of_not_lt fun h=>by
     have U:=Nat.pow_le_pow_right (n:=3) (by decide) h;have Y:3 ^ (5+1)≤3 ^ M:=U;have h7:256<3 ^ (5+1):=by decide
     omega
    have O:=QdM ⟨M,by omega⟩ ⟨d,by omega⟩ ⟨n,by omega⟩ V T (by show 2≤n;omega);dsimp only at O;rcases O with ⟨rfl,rfl,rfl⟩ |⟨rfl,rfl,rfl⟩ |⟨rfl,rfl,rfl⟩ |⟨rfl,rfl,rfl⟩ |⟨rfl,rfl,rfl⟩ |⟨rfl,rfl,rfl⟩ |⟨rfl,rfl,rfl⟩ |⟨rfl,rfl,rfl⟩ |⟨rfl,rfl,rfl⟩ |⟨rfl,rfl,rfl⟩ |⟨rfl,rfl,rfl⟩ |⟨rfl,rfl,rfl⟩
    ·exact QvO F I J
    ·exact QvP F I J
    ·exact QvR F I J
    ·exact QvS F I J
    ·exact QvT F I J
    ·omega
    ·omega
    ·omega
    ·omega
    ·omega
    ·omega
    ·omega
   ·have X:M≤3:=Nat.le_of_not_lt fun h=>by
     have U:=Nat.pow_le_pow_right (n:=5) (by decide) h;have Y:5 ^ (3+1)≤5 ^ M:=U;have h7:256<5 ^ (3+1):=by decide
     omega
    have O:=QdM ⟨M,by omega⟩ ⟨d,by omega⟩ ⟨n,by omega⟩ V T (by show 2≤n;omega);dsimp only at O;rcases O with ⟨rfl,rfl,rfl⟩ |⟨rfl,rfl,rfl⟩ |⟨rfl,rfl,rfl⟩ |⟨rfl,rfl,rfl⟩ |⟨rfl,rfl,rfl⟩ |⟨rfl,rfl,rfl⟩ |⟨rfl,rfl,rfl⟩ |⟨rfl,rfl,rfl⟩ |⟨rfl,rfl,rfl⟩ |⟨rfl,rfl,rfl⟩ |⟨rfl,rfl,rfl⟩ |⟨rfl,rfl,rfl⟩
    ·exact QvU F I J
    ·exact QvV F I J
    ·omega
    ·omega
    ·omega
    ·omega
    ·omega
    ·omega
    ·omega
    ·omega
    ·omega
    ·omega
   ·have X:M≤2:=Nat.le_of_not_lt fun h=>by
     have U:=Nat.pow_le_pow_right (n:=7) (by decide) h;have Y:7 ^ (2+1)≤7 ^ M:=U;have h7:256<7 ^ (2+1):=by decide
     omega
    have O:=QdM ⟨M,by omega⟩ ⟨d,by omega⟩ ⟨n,by omega⟩ V T (by show 2≤n;omega);dsimp only at O;rcases O with ⟨rfl,rfl,rfl⟩ |⟨rfl,rfl,rfl⟩ |⟨rfl,rfl,rfl⟩ |⟨rfl,rfl,rfl⟩ |⟨rfl,rfl,rfl⟩ |⟨rfl,rfl,rfl⟩ |⟨rfl,rfl,rfl⟩ |⟨rfl,rfl,rfl⟩ |⟨rfl,rfl,rfl⟩ |⟨rfl,rfl,rfl⟩ |⟨rfl,rfl,rfl⟩ |⟨rfl,rfl,rfl⟩
    ·exact QvW F I J
    ·omega
    ·omega
    ·omega
    ·omega
    ·omega
    ·omega
    ·omega
    ·omega
    ·omega
    ·omega
    ·omega
   ·have X:M≤2:=Nat.le_of_not_lt fun h=>by
     have U:=Nat.pow_le_pow_right (n:=11) (by decide) h;have Y:11 ^ (2+1)≤11 ^ M:=U;have h7:256<11 ^ (2+1):=by decide
     omega
    have O:=QdM ⟨M,by omega⟩ ⟨d,by omega⟩ ⟨n,by omega⟩ V T (by show 2≤n;omega);dsimp only at O;rcases O with ⟨rfl,rfl,rfl⟩ |⟨rfl,rfl,rfl⟩ |⟨rfl,rfl,rfl⟩ |⟨rfl,rfl,rfl⟩ |⟨rfl,rfl,rfl⟩ |⟨rfl,rfl,rfl⟩ |⟨rfl,rfl,rfl⟩ |⟨rfl,rfl,rfl⟩ |⟨rfl,rfl,rfl⟩ |⟨rfl,rfl,rfl⟩ |⟨rfl,rfl,rfl⟩ |⟨rfl,rfl,rfl⟩
    ·exact Qt6 F I J
    ·omega
    ·omega
    ·omega
    ·omega
    ·omega
    ·omega
    ·omega
    ·omega
    ·omega
    ·omega
    ·omega
   ·have X:M≤2:=Nat.le_of_not_lt fun h=>by
     have U:=Nat.pow_le_pow_right (n:=13) (by decide) h;have Y:13 ^ (2+1)≤13 ^ M:=U;have h7:256<13 ^ (2+1):=by decide
     omega
    have O:=QdM ⟨M,by omega⟩ ⟨d,by omega⟩ ⟨n,by omega⟩ V T (by show 2≤n;omega);dsimp only at O;rcases O with ⟨rfl,rfl,rfl⟩ |⟨rfl,rfl,rfl⟩ |⟨rfl,rfl,rfl⟩ |⟨rfl,rfl,rfl⟩ |⟨rfl,rfl,rfl⟩ |⟨rfl,rfl,rfl⟩ |⟨rfl,rfl,rfl⟩ |⟨rfl,rfl,rfl⟩ |⟨rfl,rfl,rfl⟩ |⟨rfl,rfl,rfl⟩ |⟨rfl,rfl,rfl⟩ |⟨rfl,rfl,rfl⟩
    ·exact Qt7 F I J
    ·omega
    ·omega
    ·omega
    ·omega
    ·omega
    ·omega
    ·omega
    ·omega
    ·omega
    ·omega
    ·omega
  obtain⟨u,w,h⟩:=al;exact⟨u,h.ind T.symm ae⟩
end Go.Proofs
