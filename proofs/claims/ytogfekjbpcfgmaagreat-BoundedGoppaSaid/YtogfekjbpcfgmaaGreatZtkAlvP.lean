/- Plain law of layer 5: division with remainder, step by step. -/
import Derived.Test.YtogfekjbpcfgmaaGreatZtkGpoD
import Derived.Test.YtogfekjbpcfgmaaGreatZtkAsD
set_option maxRecDepth 100000
set_option maxHeartbeats 16000000
set_option linter.unusedVariables false
namespace Go.Proofs
open Go.RowKit Cw
open Cw.CField (inv)
section
variable {D:Desc}
def QeX (f g:Nat→R D)(iv:R D)(d Q:Nat):Nat→Nat→R D
 |0=>f
 |s+1=>fun t=>QeX f g iv d Q s t - if Q - 1 - s≤t then QeX f g iv d Q s (Q - 1 - s+d)*iv*g (t - (Q - 1 - s)) else 0
def Qn8 (f g:Nat→R D)(iv:R D)(d Q:Nat)(n:Nat):R D:=QeX f g iv d Q (Q - 1 - n) (n+d)*iv
def Qif (f g:Nat→R D)(iv:R D)(d Q s:Nat)(i:Nat):R D:=if Q - s≤i∧i<Q then Qn8 f g iv d Q i else 0
variable {f g:Nat→R D} {iv:R D} {d Q:Nat}
theorem QeD {s n:Nat} (I:Q=n+1+s)(t:Nat):QeX f g iv d Q (s+1) t=QeX f g iv d Q s t - if n≤t then Qn8 f g iv d Q n*g (t - n) else 0:=by
 show QeX f g iv d Q s t - (if Q - 1 - s≤t then QeX f g iv d Q s (Q - 1 - s+d)*iv*g (t - (Q - 1 - s)) else 0)=_
 unfold Qn8;rw[show Q - 1 - s=n by omega,show Q - 1 - n=s by omega]
theorem Qqe {s n:Nat} (I:Q=n+1+s):Qn8 f g iv d Q n=QeX f g iv d Q s (n+d)*iv:=by unfold Qn8;rw[show Q - 1 - n=s by omega]
theorem Qqf (I:LtD f (d+Q))(J:LtD g (d+1))(O:iv*g d=1):∀s,s≤Q→LtD (QeX f g iv d Q s) (d+Q - s)
 |0,_=>I
 |s+1,h=>fun t V=>by
  obtain⟨n,T⟩:∃n,Q=n+1+s:=⟨Q - 1 - s,by omega⟩;have U:=Qqf I J O s (by omega);rw[QeD T,if_pos (by omega),Qqe T];by_cases e:t=n+d
  ·rw[e,show n+d - n=d by omega,Qa6,O,Qax,QaV]
  ·rw[U t (by omega),J _ (by omega),Qac,Qa3]
theorem Qn9 {R:Type} [CRing R] (f h g:Nat→R)(t:Nat):conv (fun s=>f s+h s) g t=conv f g t+conv h g t:=by
 unfold conv
 rw[←Qbc];exact Qaa fun i _=>Qbw _ _ _
theorem QhR {R:Type} [CRing R] (n:Nat)(c:R)(g:Nat→R)(t:Nat):conv (fun s=>if s=n then c else 0) g t=if n≤t then c*g (t - n) else 0:=by
 unfold conv
 by_cases h:n≤t
 ·rw[if_pos h,Qak (k:=n) (by omega) fun i _ I=>by dsimp only;rw[if_neg I,Qah]];dsimp only;rw[if_pos rfl]
 ·rw[if_neg h];exact Qag fun i J=>by dsimp only;rw[if_neg (by omega),Qah]
theorem QkJ {s n:Nat} (J:Q=n+1+s)(i:Nat):Qif f g iv d Q (s+1) i=Qif f g iv d Q s i+if i=n then Qn8 f g iv d Q n else 0:=by
 unfold Qif;by_cases e:i=n
 ·rw[if_pos (by omega),if_neg (by omega),if_pos e,Qai,e]
 ·rw[if_neg e,Qad];by_cases I:Q - s≤i∧i<Q
  ·rw[if_pos I,if_pos (by omega)]
  ·rw[if_neg I,if_neg (by omega)]
theorem Qqg:∀s,s≤Q→∀t,f t=conv (Qif f g iv d Q s) g t+QeX f g iv d Q s t
 |0,_,t=>by
  rw[show conv (Qif f g iv d Q 0) g t=0 from Qag fun i _=>by unfold Qif;rw[if_neg (by omega),Qah],Qai];rfl
 |s+1,h,t=>by
  obtain⟨n,I⟩:∃n,Q=n+1+s:=⟨Q - 1 - s,by omega⟩;rw[Qqg s (by omega) t,QeD I,show Qif f g iv d Q (s+1)=fun i=>Qif f g iv d Q s i+if i=n then Qn8 f g iv d Q n else 0 from funext fun i=>QkJ I i,Qn9,QhR,QcD]
  congr 1
  rw[QdV,QbX]
end
theorem Qwb {F:FD} {p q:List Int} {d A Q:Nat} (J:(QaD F.z q).length=d+1)(hA:(QaD F.z p).length=A)(hQ:Q=A - d) :
  QmG F.z p q (Qep (fun i=>ci (Qif (cfR F.z p) (cfR F.z q) (inv (cfR F.z q d)) d Q Q i)) Q) (Qep (fun i=>ci (QeX (cfR F.z p) (cfR F.z q) (inv (cfR F.z q d)) d Q Q i)) A):=by
 have V:LtD (cfR F.z p) (d+Q):=fun t U=>by rw[←Qbe];exact Qao F.z (by omega)
 have X:LtD (cfR F.z q) (d+1):=fun t U=>by rw[←Qbe];exact Qao F.z (by omega)
 have Y:cfR F.z q d≠0:=by rw[←Qbe];exact Qa1 (QaZ F.z q) J
 have O:=Qqf V X (QbH Y) Q ρ;have T:∀i,Q≤i→Qif (cfR F.z p) (cfR F.z q) (inv (cfR F.z q d)) d Q Q i=0:=fun i hi=>by unfold Qif;rw[if_neg (by omega)]
 have I:∀i,A≤i→QeX (cfR F.z p) (cfR F.z q) (inv (cfR F.z q d)) d Q Q i=0:=fun i hi=>by
  by_cases e:A≤d
  ·have e2:Q=0:=by omega
   rw[e2]
   show cfR F.z p i=0
   rw[←Qbe];exact Qao F.z (by omega)
  ·exact O i (by omega)
 refine⟨Qdv _ _ T,Qdv _ _ I,fun s=>?_,?_⟩
 ·rw[QdC _ _ T,QdC _ _ I];exact Qqg Q ρ s
 ·rw[J];have:=Qdg (Qdv _ _ I) (n:=d) fun t U=>by rw[QdC _ _ I];exact O t (by omega)
  omega
end Go.Proofs
namespace Cw
section
variable {R:Type} [CRing R]
theorem Qsa (n k:Nat)(f:Nat→R):nsm n (Qat k f)=Qat k fun i=>nsm n (f i):=by
 rw[Qcv,←Qal];exact Qaa fun i _=>(Qcv n (f i)).symm
theorem Qc8 (n:Nat):nsm n (0:R)=0:=by rw[Qcv,Qac]
def Pl.D (a:Pl R):Pl R:=⟨fun t=>nsm (t+1) (a.c (t+1)),by
 obtain⟨n,I⟩:=a.fin;exact⟨n,fun t J=>by dsimp only;rw[I (t+1) (by omega),Qc8]⟩⟩
theorem Qwc (a:Pl R)(t:Nat):a.D.c t=nsm (t+1) (a.c (t+1)):=rfl
theorem Qwd (a b:Pl R):(a*b).D=a.D*b+a*b.D:=Pl.ext' fun t=>by
 rw[Qwc,Qp4,QkH,Qp4,Qp4];have I:conv a.D.c b.c t=Qat (t+2) fun s=>nsm s (a.c s)*b.c (t+1 - s):=by
  rw[QaE (t+1)];rw[show nsm 0 (a.c 0)*b.c (t+1 - 0)=0 from by rw[QdY,Qah],Qai];unfold conv
  exact Qaa fun s _=>by rw[show t+1 - (s+1)=t - s by omega];rfl
 have J:conv a.c b.D.c t=Qat (t+2) fun s=>a.c s*nsm (t+1 - s) (b.c (t+1 - s)):=by
  rw[Qaj (t+1),show t+1 - (t+1)=0 by omega,QdY,Qac,Qad];unfold conv
  exact Qaa fun s O=>by rw[Qwc,show t - s+1=t+1 - s by omega]
 rw[I,J,←Qbc]
 show nsm (t+1) (Qat (t+2) fun s=>a.c s*b.c (t+1 - s))=_
 rw[Qsa];refine Qaa fun s O=>?_
 rw[←Qcw,Qb3 (a.c s) (nsm _ _),←Qcw,Qb3 (b.c _) (a.c s),←QfZ]
 congr 1
 omega
theorem D_D (I:nsm 2 (1:R)=0)(a:Pl R):a.D.D=0:=Pl.ext' fun t=>by
 rw[Qwc,Qwc,←Qk4];obtain⟨k,J⟩:∃k,(t+1)*(t+1+1)=2*k:=by
  rcases Nat.mod_two_eq_zero_or_one t with h |h
  ·exact⟨(t+1)*(t / 2+1),by rw[show t+1+1=2*(t / 2+1) by omega];exact Nat.mul_left_comm _ _ _⟩
  ·exact⟨(t / 2+1)*(t+1+1),by rw[←Nat.mul_assoc];congr 1;omega⟩
 rw[J];exact QiR I (Nat.dvd_mul_right _ _) _
theorem Quq {g a:Pl R} (I:a.D=0)(J:Cop g g.D)(h:g.dvd a):(g*g).dvd a:=by
 obtain⟨q,rfl⟩:=h;rw[Qwd]at I;have O:g.dvd (g.D*q):=by
  have e:g.D*q=-q.D*g:=by
   rw[Qbb,Qb3 g.D q];exact QbM I
  rw[e];exact Pl.dvd.self g _
 obtain⟨r,rfl⟩:=J.dvd O;exact⟨r,by ac_rfl⟩
def hP:List (R×R)→Pl R
 | []=>1
 |(x,_) :: l=>Pl.lin x*hP l
def nP:List (R×R)→Pl R
 | []=>0
 |(x,u) :: l=>Pl.k u*hP l+Pl.lin x*nP l
def QkK {α:Type} (f:α→R):List α→R
 | []=>0
 |a :: l=>f a+QkK f l
theorem QlG {α:Type} (f:α→R)(l m:List α):QkK f (l ++ m)=QkK f l+QkK f m:=by
 induction l with
 |nil=>exact (Qai _).symm
 |cons a l ih=>show f a+QkK f (l ++ m)=f a+QkK f l+QkK f m;rw[ih,QcD]
theorem QiH (f:Nat→R)(n:Nat):QkK f (List.range n)=Qat n f:=by
 induction n with
 |zero=>rfl
 |succ n ih=>rw[List.range_succ,QlG,ih,Qaj];show _+(f n+0)=_;rw[Qad]
theorem QmR {α β:Type} (f:β→R)(g:α→β)(l:List α):QkK f (l.map g)=QkK (fun a=>f (g a)) l:=by
 induction l with
 |nil=>rfl
 |cons a l ih=>show f (g a)+QkK f (l.map g)=_;rw[ih];rfl
theorem QlH {α:Type} (f:α→R)(p:α→Bool){l:List α} (h:∀a∈l,p a=false→f a=0):QkK f (l.filter p)=QkK f l:=by
 induction l with
 |nil=>rfl
 |cons a l ih =>
  have I:=ih fun b J=>h b (List.mem_cons_of_mem _ J)
  rw[List.filter_cons]
  cases e:p a with
  |true=>rw[if_pos rfl];show f a+QkK f (l.filter p)=f a+QkK f l;rw[I]
  |false=>rw[if_neg (by decide),I];show _=f a+QkK f l;rw[h a (List.mem_cons_self ..) e,Qai]
theorem Qtb {l:List (R×R)} (h:∀a∈l,a.2=1):nP l=(hP l).D:=by
 induction l with
 |nil =>
  refine Pl.ext' fun t=>?_
  show (0:R)=nsm (t+1) (if t+1=0 then 1 else 0)
  rw[if_neg (by omega),Qc8]
 |cons a l ih =>
  obtain⟨x,u⟩:=a;have I:u=1:=h (x,u) (List.mem_cons_self ..)
  show Pl.k u*hP l+Pl.lin x*nP l=(Pl.lin x*hP l).D
  rw[Qwd,ih fun b J=>h b (List.mem_cons_of_mem _ J),I]
  congr 1
  congr 1
  refine Pl.ext' fun t=>?_
  rw[Qwc]
  show (if t=0 then (1:R) else 0)=nsm (t+1) (if t+1=0 then -x else if t+1=1 then 1 else 0)
  rw[if_neg (show ¬ t+1=0 by omega)];by_cases e:t=0
  ·rw[if_pos e,if_pos (by omega),e,Qe4]
  ·rw[if_neg e,if_neg (by omega),Qc8]
end
section
variable {F:Type} [CField F]
open CField (inv)
noncomputable def Qqh (g:Pl F)(l:List (F×F))(i:Nat):F:=QkK (fun a=>a.2*inv (g.ev a.1)*pw a.1 i) l
theorem Qtc {g:Pl F} {n:Nat} (J:g.lt (n+1)):∀l:List (F×F),(∀a∈l,g.ev a.1≠0)→∃s:Pl F,g.dvd (nP l+hP l*s)∧s.lt n∧∀i,s.c i=Qat (n - i) fun k=>g.c (i+1+k)*Qqh g l k
 | [],_=>⟨0,by
   show g.dvd (0+1*0)
   rw[Qac,Qad];exact Pl.dvd.zero g,fun _ _=>rfl,fun i=>(Qag fun k _=>Qac _).symm⟩
 |(x,u) :: l,h=>by
  obtain⟨s,Y,h2,h3⟩:=Qtc J l fun b hb=>h b (List.mem_cons_of_mem _ hb)
  have O:g.ev x≠0:=h (x,u) (List.mem_cons_self ..);obtain⟨q,e,q1,q2⟩:=Qp5 g x J;have T:∀k,Qqh g ((x,u) :: l) k=u*inv (g.ev x)*pw x k+Qqh g l k:=fun _=>rfl
  generalize g.ev x=y at e O T;refine⟨Pl.k (u*inv y)*q+s,?_,fun t I=>?_,fun i=>?_⟩
  ·have U:Pl.k u=Pl.k (u*inv y)*Pl.k (y):=Pl.ext' fun t=>by
    rw[Qee]
    show (if t=0 then u else 0)=u*inv y*(if t=0 then y else 0)
    by_cases I:t=0
    ·rw[if_pos I,if_pos I,Qa6,QbH O,Qax]
    ·rw[if_neg I,if_neg I,Qac]
   have V:Pl.k u+Pl.lin x*(Pl.k (u*inv y)*q)=Pl.k (u*inv y)*g:=by
    rw[U];rw[e,QaQ]
    ac_rfl
   have X:nP ((x,u) :: l)+hP ((x,u) :: l)*(Pl.k (u*inv y)*q+s)=hP l*(Pl.k (u*inv y)*g)+Pl.lin x*(nP l+hP l*s):=by
    show Pl.k u*hP l+Pl.lin x*nP l+Pl.lin x*hP l*(Pl.k (u*inv y)*q+s)=_
    rw[←V,QaQ (Pl.lin x*hP l),QaQ (hP l),QaQ (Pl.lin x)]
    ac_rfl
   rw[X];exact (Pl.dvd.self g _ |>.mul _).add (Y.mul _)
  ·show _=(0:F)
   rw[QkH,Qee,q1 t I,h2 t I,Qac,Qad]
  ·rw[QkH,Qee,q2,h3,←Qal,←Qbc];refine Qaa fun k _=>?_
   rw[T,QaQ]
   congr 1
   ac_rfl
theorem QkL {g a:Pl F}:∀l:List (F×F),(∀b∈l,g.ev b.1≠0)→g.dvd (hP l*a)→g.dvd a
 | [],_,h=>by rwa [show hP ([]:List (F×F))*a=a from Qav a]at h
 |(x,u) :: l,h0,h=>by
  refine QkL l (fun b I=>h0 b (List.mem_cons_of_mem _ I)) (Qn2 (x:=x) (h0 (x,u) (List.mem_cons_self ..)) ?_)
  rwa [show hP ((x,u) :: l)*a=Pl.lin x*(hP l*a) from Qa6 _ _ _]at h
theorem QlI {g:Pl F} {n:Nat} (U:g.lt (n+1))(h0:g.c n≠0)(l:List (F×F))(V:∀a∈l,g.ev a.1≠0):g.dvd (nP l)↔∀i,i<n→Qqh g l i=0:=by
 obtain⟨s,O,h2,X⟩:=Qtc U l V;constructor
 ·intro h;have h4:g.dvd (hP l*s):=by
   have I:=O.sub h;rw[QdV,QaI]at I;exact I
  have J:s=0:=Qjw U h0 h2 (QkL l V h4);intro i
  induction i using Nat.strongRecOn with
  |_ i ih =>
   intro hi;have I:=X (n - 1 - i);rw[J,show n - (n - 1 - i)=i+1 by omega,Qaj,Qag (n:=i) fun k Y=>by rw[ih k Y (by omega),Qac],Qai,show n - 1 - i+1+i=n by omega]at I;rcases Qbx I.symm with T |T
   ·exact absurd T h0
   ·exact T
 ·intro h;have J:s=0:=Pl.ext' fun t=>by
   rw[X];exact Qag fun k Y=>by rw[h k (by omega),Qac]
  rw[J,Qac,Qad]at O;exact O
theorem Qwe {g h:Pl F} {n m:Nat} (I:g.lt (n+1))(J:h.lt (m+1)):(g*h).lt (n+m+1):=fun t O=>Qb8 I J (by omega)
theorem Qw0 {g h:Pl F} {n m:Nat} (I:g.lt (n+1))(J:h.lt (m+1)):(g*h).c (n+m)=g.c n*h.c m:=Qdh I J
theorem QlJ (h2:nsm 2 (1:F)=0){g:Pl F} {n:Nat} (J:g.lt (n+1))(h0:g.c n≠0)(hs:Cop g g.D)(l:List (F×F))(T:∀a∈l,g.ev a.1≠0)(ac:∀a∈l,a.2=0∨a.2=1)
  (h:∀i,i<n→Qqh g l i=0):∀i,i<n+n→Qqh (g*g) l i=0:=by
 classical
 have O:∀a∈l.filter (fun a=>decide (a.2=1)),a∈l∧a.2=1:=fun a I=>by
  obtain⟨g1,g2⟩:=List.mem_filter.1 I;exact⟨g1,of_decide_eq_true g2⟩
 have hz:∀a∈l,decide (a.2=1)=false→a.2=0:=fun a I e=>(ac a I).resolve_right (of_decide_eq_false e)
 have V:∀ (q:Pl F) i,Qqh q (l.filter fun a=>decide (a.2=1)) i=Qqh q l i:=fun q i=>QlH _ _ fun a I e=>by rw[hz a I e,Qa6,Qah]
 have X:=(QlI J h0 (l.filter fun a=>decide (a.2=1)) (fun a I=>T a (O a I).1)).2 fun i U=>(V g i).trans (h i U)
 rw[Qtb fun a I=>(O a I).2]at X;have Y:=Quq (D_D h2 _) hs X;rw[←Qtb fun a I=>(O a I).2]at Y;intro i U;rw[←V];refine (QlI (Qwe J J) (by rw[Qw0 J J];exact QaS h0 h0) _ fun a I=>?_).1 Y i U;rw[QiD];exact QaS (T a (O a I).1) (T a (O a I).1)
end
end Cw
namespace Go.Proofs
open Go.RowKit Cw
open Cw.CField (inv)
section
variable {S F:FD} {r:R F.z}
theorem Qc0 (hp:S.p=F.p):nsm S.p (1:R F.z)=0:=by rw[hp];exact Qfx
theorem Qsb (hp:S.p=F.p)(h0:muV S F r=0){y:R F.z} (X:Qbq S.m y):∃u:R S.z,phi S F r u=y:=by
 refine Classical.byContradiction fun V=>?_
 have T:=Qc0 (S:=S) (F:=F) hp;have Y:S.q=F.p ^ S.m:=by rw[←hp];rfl
 have h2:=S.z.q2;have aa:∀x:R F.z,Qbq S.m x→pw x S.q=x:=fun x hx=>by
  have I:pw x (F.p ^ S.m)=x:=hx;rw[←Y]at I;exact I
 have ha:∀i,Qbq S.m (if i<S.q then phi S F r (rel S.z i) else y):=fun i=>by
  by_cases e:i<S.q
  ·rw[if_pos e];exact Qlq hp T h0 _
  ·rw[if_neg e];exact X
 have U:=QeK (n:=S.q+1) (f:=fun i=>if i=S.q then (1:R F.z) else if i=1 then -1 else 0) (a:=fun i=>if i<S.q then phi S F r (rel S.z i) else y)
  (fun i j hi hj e=>by
   by_cases O:i<S.q
   ·by_cases J:j<S.q
    ·rw[if_pos O,if_pos J]at e;have I:=congrArg QaA (Qfc T h0 e);rw[QbA O,QbA J]at I;exact I
    ·rw[if_pos O,if_neg J]at e;exact absurd ⟨_,e⟩ V
   ·by_cases J:j<S.q
    ·rw[if_neg O,if_pos J]at e;exact absurd ⟨_,e.symm⟩ V
    ·omega)
  (fun k _=>by
   have I:=aa _ (ha k);generalize (if k<S.q then phi S F r (rel S.z k) else y)=x at I ⊢;rw[Qaj,if_pos rfl,Qav,Qak (k:=1) (by omega) fun i hi ae=>by rw[if_neg (by omega),if_neg ae,Qah]];rw[if_neg (by omega),if_pos rfl,Qii,Qbb,Qav,I,Qcu]) (i:=S.q) (by omega)
 rw[if_pos rfl]at U;exact QbD U
open Classical in
noncomputable def bk (S F:FD)(r:R F.z)(y:R F.z):R S.z:=if h:∃u,phi S F r u=y then Classical.choose h else 0
theorem Qtd (hp:S.p=F.p)(h0:muV S F r=0)(u:R S.z):bk S F r (phi S F r u)=u:=by
 have h:∃I,phi S F r I=phi S F r u:=⟨u,rfl⟩;unfold bk;rw[dif_pos h];exact Qfc (Qc0 hp) h0 (Classical.choose_spec h)
theorem Qte (hp:S.p=F.p)(h0:muV S F r=0){y:R F.z} (I:Qbq S.m y):phi S F r (bk S F r y)=y:=by
 have h:=Qsb hp h0 I;unfold bk;rw[dif_pos h];exact Classical.choose_spec h
theorem Qtf {y:R F.z} (h:¬ ∃u,phi S F r u=y):bk S F r y=0:=by unfold bk;rw[dif_neg h]
theorem Qfi (hp:S.p=F.p)(h0:muV S F r=0){u:R S.z}:phi S F r u=0↔u=0:=by
 refine⟨fun h=>Qfc (Qc0 hp) h0 (h.trans (QcZ r).symm),fun h=>by rw[h,QcZ]⟩
theorem Qur (hp:S.p=F.p)(h0:muV S F r=0){n N:Nat} {b:Nat→R F.z} (V:QjN S.m n b){h:Nat→R F.z} {c:Nat→Nat→R F.z}
  (O:∀j,j<N→(∀t,t<n→Qbq S.m (c j t))∧Qat n (fun t=>c j t*b t)=h j) (u:Nat→R S.z) :
  Qat N (fun j=>h j*phi S F r (u j))=0↔∀t,t<n→Qat N (fun j=>bk S F r (c j t)*u j)=0:=by
 have T:=Qc0 (S:=S) (F:=F) hp;have U:∀t,t<n→phi S F r (Qat N fun j=>bk S F r (c j t)*u j)=Qat N fun j=>c j t*phi S F r (u j):=fun t I=>by
  rw[Qjg hp];exact Qaa fun j J=>by rw[Qhr T h0,Qte hp h0 ((O j J).1 t I)]
 have X:Qat N (fun j=>h j*phi S F r (u j))=Qat n fun t=>(Qat N fun j=>c j t*phi S F r (u j))*b t:=by
  rw[Qaa (g:=fun j=>Qat n fun t=>c j t*phi S F r (u j)*b t) fun j J=>by
   rw[←(O j J).2,←Qar];exact Qaa fun t _=>by ac_rfl,QaX]
  exact Qaa fun t _=>Qar _ _ _
 rw[X];constructor
 ·intro hz t I;have Y:=V _ (fun t I=>Qbq.rsum fun j J=>((O j J).1 t I).mul (Qlq hp T h0 _)) hz t I;exact (Qfi hp h0).1 ((U t I).trans Y)
 ·intro hz;exact Qag fun t I=>by rw[←U t I,hz t I,QcZ,Qah]
theorem Qwf {d:Nat} (s:Zp F.p)(x:R F.z):∀n,tr d (nsm n x)=nsm n (tr d x)
 |0=>QgR d
 |n+1=>by rw[Qcd,QsF,Qwf s x n,Qcd]
theorem Qwg (n:Nat):sc (D:=F.z) (zp F.p n)=nsm n 1:=by
 induction n with
 |zero=>rw[Qes,Qg6];rfl
 |succ n ih =>
  rw[Qcd,←ih,←QjX,Qcd,QoI,QjX,QoH]
theorem Qwh {d n:Nat} (I:d*n=F.m)(J:1≤d){y:R F.z} (h:∀k,k<F.m→tr d (pw (Xc F.z) k*y)=0):y=0:=by
 refine Classical.byContradiction fun U=>?_
 obtain⟨z,hz⟩:=QoU (F:=R F.z) (d:=d) ⟨n,I.symm⟩ J;apply hz;have O:z=Qat F.m (fun k=>sc (zp F.p (di (z*inv y) k))*pw (Xc F.z) k)*y:=by
  have T:Qat F.m (fun k=>sc (zp F.p (di (z*inv y) k))*pw (Xc F.z) k)=z*inv y:=Qfy (z*inv y);rw[T,Qa6,QbH U,Qax]
 rw[O,←Qar,Qlr];refine Qag fun k V=>?_
 rw[Qwg,Qa6,←Qcv,Qwf (zp F.p 0),h k V,Qc8]
theorem Qtg (hp:S.p=F.p)(h0:muV S F r=0){n N:Nat} (I:S.m*n=F.m)(U:1≤n)(h:Nat→R F.z)(u:Nat→R S.z) :
  Qat N (fun j=>h j*phi S F r (u j))=0↔∀k,k<F.m→Qat N (fun j=>bk S F r (tr S.m (pw (Xc F.z) k*h j))*u j)=0:=by
 have J:=Qc0 (S:=S) (F:=F) hp;have V:S.m∣F.m:=⟨n,I.symm⟩;have O:∀k,phi S F r (Qat N fun j=>bk S F r (tr S.m (pw (Xc F.z) k*h j))*u j)=tr S.m (pw (Xc F.z) k*Qat N fun j=>h j*phi S F r (u j)):=fun k=>by
  rw[Qjg hp,←Qal,Qlr];refine Qaa fun j _=>?_
  rw[Qhr J h0,Qte hp h0 (Ql5 (F:=R F.z) V _),Qb3,←Qs3 (F:=R F.z) I U (Qlq hp J h0 (u j))]
  congr 1
  ac_rfl
 constructor
 ·intro hz k T;refine (Qfi hp h0).1 ?_;rw[O,hz,Qac];exact QgR _
 ·intro hz;refine Qwh I S.m1 fun k T=>?_
  rw[←O,hz k T,QcZ]
end
end Go.Proofs
namespace Cw
section
variable {F:Type} [CField F]
theorem Qsc:∀ (l:List (F×F)) (x:F),(hP l).ev x=0↔∃a∈l,a.1=x
 | [],x=>by
  show (1:Pl F).ev x=0↔_
  rw[show (1:Pl F)=Pl.k 1 from rfl,Qxg];exact⟨fun h=>absurd h QbD,fun⟨a,h,_⟩=>by cases h⟩
 |(y,v) :: l,x=>by
  show (Pl.lin y*hP l).ev x=0↔_
  rw[QiD,Qv5];constructor
  ·intro h;rcases Qbx h with e |e
   ·exact⟨(y,v),List.mem_cons_self ..,(Qbg e).symm⟩
   ·obtain⟨a,J,I⟩:=(Qsc l x).1 e;exact⟨a,List.mem_cons_of_mem _ J,I⟩
  ·rintro⟨a,J,I⟩;rcases List.mem_cons.1 J with e |e
   ·rw[e]at I;rw[show y=x from I,QaV,Qah]
   ·rw[(Qsc l x).2 ⟨a,e,I⟩,Qac]
theorem Qwi:∀l:List (F×F),(hP l).lt (l.length+1)
 | []=>fun t I=>if_neg (by simp at I;omega)
 |(y,v) :: l=>fun t I=>by
  have J:=Qwi l;rw[List.length_cons]at I
  show (Pl.lin y*hP l).c t=0
  rw[QiC,if_neg (by omega),J (t - 1) (by omega),J t (by omega),Qac,Qa3]
theorem Qoa {N t:Nat} {x y u:Nat→F} (ad:∀i j,i<N→j<N→x i=x j→i=j)(hy:∀j,j<N→y j≠0)(h:∀i,i<t→Qat N (fun j=>y j*pw (x j) i*u j)=0)(p:Nat→Bool)(hp:∀j,j<N→(p j=false→u j=0))
  {I:Nat} (O:I<N) (Y:u I≠0):t+1≤((List.range N).filter p).length:=by
 refine Classical.byContradiction fun al=>?_
 have aa:I∈(List.range N).filter p:=List.mem_filter.2 ⟨List.mem_range.2 O,by
  cases e:p I with
  |true=>rfl
  |false=>exact absurd (hp I O e) Y⟩
 obtain⟨T,V⟩:=ε ((((List.range N).filter p).erase I));have hl:T.length+1=((List.range N).filter p).length:=by
  rw[V,List.length_erase_of_mem aa];have:=List.length_pos_of_mem aa;omega
 have ab:((List.range N).filter p).Nodup:=List.Pairwise.filter _ List.nodup_range;obtain⟨f,X⟩:=ε (hP (T.map fun j=>(x j,(1:F))));have af:f.lt t:=by
  have U:=Qwi (T.map fun j=>(x j,(1:F)));rw[List.length_map,←X]at U;exact LtD.mono U (by omega)
 have e1:Qat N (fun j=>y j*u j*f.ev (x j))=0:=by
  rw[Qaa (g:=fun j=>Qat t fun i=>f.c i*(y j*pw (x j) i*u j)) fun j _=>by
   rw[QhL af];unfold vl;rw[←Qal];exact Qaa fun i _=>by ac_rfl,QaX]
  exact Qag fun i hi=>by rw[Qal,h i hi,Qac]
 rw[Qak (k:=I) O fun j J aj=>?_]at e1
 ·rcases Qbx e1 with e |e
  ·exact QaS (hy I O) Y e
  ·rw[X]at e;obtain⟨a,U,h2⟩:=(Qsc _ _).1 e;obtain⟨j,J,rfl⟩:=List.mem_map.1 U;rw[V,ab.mem_erase_iff]at J;exact J.1 (ad j I (List.mem_range.1 (List.mem_filter.1 J.2).1) O h2)
 ·cases e:p j with
  |false=>rw[hp j J e,Qac,Qah]
  |true =>
   have h3:f.ev (x j)=0:=by
    rw[X];refine (Qsc _ _).2 ⟨(x j,1),List.mem_map.2 ⟨j,?_,rfl⟩,rfl⟩;rw[V,ab.mem_erase_iff];exact⟨aj,List.mem_filter.2 ⟨List.mem_range.2 J,e⟩⟩
   rw[h3,Qac]
end
end Cw
namespace Go.Proofs
open Go.RowKit Cw
section
section
variable {S F:FD} {r:R F.z} {N t k n:Nat} {h:Nat→Nat→R F.z} {E:Nat→Nat→R S.z}
def Qcc (S F:FD)(r:R F.z)(N t:Nat)(h:Nat→Nat→R F.z)(u:Nat→R S.z):Prop:=∀i,i<t→Qat N (fun j=>h i j*phi S F r (u j))=0
def QlK (S F:FD)(r:R F.z)(N t:Nat)(h:Nat→Nat→R F.z)(k:Nat)(E:Nat→Nat→R S.z):Prop:=∀u,QgG k N E u↔Qcc S F r N t h u
theorem QlK.zero (S F:FD)(r:R F.z)(N:Nat)(h:Nat→Nat→R F.z)(E:Nat→Nat→R S.z):QlK S F r N 0 h 0 E:=fun _=>⟨fun _ i I=>absurd I (Nat.not_lt_zero i),fun _ i I=>absurd I (Nat.not_lt_zero i)⟩
noncomputable def Qob (S F:FD)(r:R F.z)(c:Nat→Nat→R F.z):Nat→Nat→R S.z:=fun i j=>bk S F r (c j i)
theorem Qcc.succ (u:Nat→R S.z):Qcc S F r N (t+1) h u↔Qcc S F r N t h u∧Qat N (fun j=>h t j*phi S F r (u j))=0:=by
 constructor
 ·intro g;exact⟨fun i O=>g i (by omega),g t (by omega)⟩
 ·rintro⟨I,J⟩ i O;by_cases e:i=t
  ·subst e;exact J
  ·exact I i (by omega)
theorem QlK.step (hp:S.p=F.p)(h0:muV S F r=0){b:Nat→R F.z} (I:QjN S.m n b)(J:QlK S F r N t h k E){c:Nat→Nat→R F.z}
  (O:∀j,j<N→(∀i,i<n→Qbq S.m (c j i))∧Qat n (fun i=>c j i*b i)=h t j) :
  QlK S F r N (t+1) h (rkS S (k+n) N (Qdx k E (Qob S F r c))) (elS (k+n) (Qdx k E (Qob S F r c)) N).1:=fun u=>by
 have T:QgG (rkS S (k+n) N (Qdx k E (Qob S F r c))) N (elS (k+n) (Qdx k E (Qob S F r c)) N).1 u↔QgG (k+n) N (Qdx k E (Qob S F r c)) u:=QgG.same (Qcz (k+n) N (Qdx k E (Qob S F r c))) u;rw[T,Qn6,J u,Qcc.succ,Qur hp h0 I O u];exact Iff.rfl
noncomputable def QqN (S:FD)(k N:Nat)(E:Nat→Nat→R S.z):Nat:=(npv (pvF (elS k E N).2) (rkS S k N E) N).length
noncomputable def QwN (S:FD)(k N:Nat)(E:Nat→Nat→R S.z):Nat→Nat→R S.z:=(elS (QqN S k N E) (QhP (rkS S k N E) N (pvF (elS k E N).2) (elS k E N).1) N).1
theorem QlK.code (J:QlK S F r N t h k E)(u:Nat→R S.z) :
  Qb2 (rkS S (QqN S k N E) N (QwN S k N E)) N (elS (QqN S k N E) (QwN S k N E) N).1 u↔Qcc S F r N t h u:=by
 have O:=QgW (Qcz (QqN S k N E) N (QwN S k N E)) u;have T:rkS S (QqN S k N E) N (QhP (rkS S k N E) N (pvF (elS k E N).2) (elS k E N).1)=QqN S k N E:=QgQ QhQ;have I:=Qcz (QqN S k N E) N (QhP (rkS S k N E) N (pvF (elS k E N).2) (elS k E N).1);rw[show (elS (QqN S k N E) (QhP (rkS S k N E) N (pvF (elS k E N).2) (elS k E N).1) N).2.length=QqN S k N E from T]at I;have U:Qb2 (QqN S k N E) N (QwN S k N E) u↔_:=QgW I u;have V:=Qqb (Qgv k N E) u;have X:QgG (rkS S k N E) N (elS k E N).1 u↔QgG k N E u:=QgG.same (Qcz k N E) u;exact O.trans (U.trans (V.trans (X.trans (J u))))
end
end
section
open Cw.CField (inv)
def plI (D:Desc)(p:List Int):Pl (R D):=⟨cfR D p,p.length,QbQ D p⟩
theorem QmG.pl {D:Desc} {p q I J:List Int} (h:QmG D p q I J):plI D p=plI D I*plI D q+plI D J:=Pl.ext' h.eq
theorem Qfj (D:Desc):plI D []=0:=Pl.ext' fun _=>Qao D (Nat.zero_le _)
structure Qdy (D:Desc) (a b:Pl (R D)) (l:List Int):Prop where
 can:QaD D l=l
 da:(plI D l).dvd a
 db:(plI D l).dvd b
 bez:∃u v,u*a+v*b=plI D l
theorem Qdy.up {D:Desc} {a b:Pl (R D)} {l:List Int} (h:Qdy D a b l){d:Pl (R D)} (I:d.dvd a)(J:d.dvd b):d.dvd (plI D l):=by
 obtain⟨u,v,e⟩:=h.bez;rw[←e];exact (I.mul u).add (J.mul v)
theorem QcB (D:Desc)(p:List Int):plI D (QaD D p)=plI D p:=Pl.ext' fun t=>congrFun (Qbe D p) t
def QmS (D:Desc)(p q r:List Int):Prop:=∃u:Pl (R D),plI D p=u*plI D q+plI D r
theorem QmS.zero {D:Desc} {p I q:List Int} (h:plI D I=plI D p):QmS D p q I:=⟨0,by rw[Qah,Qai,h]⟩
theorem QeE (D:Desc)(p:List Int)(x:R D):(plI D p).ev x=QaW D p x:=(QhL (a:=plI D p) (n:=p.length) (QbQ D p) x).trans (QbI D p x ρ).symm
theorem QmS.ev {D:Desc} {p q r:List Int} (h:QmS D p q r):∃Q:R D→R D,∀x,QaW D p x=Q x*QaW D q x+QaW D r x:=by
 obtain⟨u,e⟩:=h;exact⟨u.ev,fun x=>by rw[←QeE,e,Qv4,QiD,QeE,QeE]⟩
def Pl.mono {R:Type} [CRing R] (n:Nat)(c:R):Pl R:=⟨fun t=>if t=n then c else 0,n+1,fun t I=>if_neg (by omega)⟩
theorem QmS.step {D:Desc} {p q q' r:List Int} (h:QmS D p q r)(I:plI D q'=plI D q)(a:Int)(n:Nat):QmS D p q (QfK D r q' a n):=by
 obtain⟨u,e⟩:=h;have J:plI D r=Pl.mono n (eli D a)*plI D q'+plI D (QfK D r q' a n):=Pl.ext' fun t=>by
  show cfR D r t=conv (fun s=>if s=n then eli D a else 0) (cfR D q') t+cfR D (QfK D r q' a n) t
  rw[Qks,QhR];generalize (if n≤t then eli D a*cfR D q' (t - n) else 0)=x;rw[QbV,show x+(cfR D r t+-x)=cfR D r t+(x+-x) by ac_rfl,QaU,Qad]
 refine⟨u+Pl.mono n (eli D a),?_⟩;rw[e,J,I,Qbw,QcD]
theorem Qdy.step {D:Desc} {p q I J l:List Int} (O:QmG D p q I J)(h:Qdy D (plI D q) (plI D J) l):Qdy D (plI D p) (plI D q) l:=by
 refine⟨h.can,?_,h.da,?_⟩
 ·rw[O.pl];exact (h.da.mul _).add h.db
 ·obtain⟨u,v,e⟩:=h.bez;refine⟨v,u - v*plI D I,?_⟩;rw[←e,O.pl,QaQ,QbV,Qbw,Qbb];rw[show v*plI D I*plI D q=v*(plI D I*plI D q) from Qa6 _ _ _];generalize v*(plI D I*plI D q)=x;generalize v*plI D J=y;generalize u*plI D q=z;rw[show x+y+(z+-x)=z+y+(x+-x) by ac_rfl,QaU,Qad]
section
variable {F:FD}
theorem Qqi {l l':List Int} (I:QaD F.z l=l)(J:QaD F.z l'=l')(X:1≤l'.length)(h:(plI F.z l).dvd (plI F.z l')):l.length≤l'.length:=by
 refine Classical.byContradiction fun Y=>?_
 obtain⟨n,T⟩:∃n,l.length=n+1:=⟨l.length - 1,by omega⟩;have O:=Qjw (g:=plI F.z l) (a:=plI F.z l') (n:=n) (fun t V=>Qao _ (by omega)) (Qa1 I T) (fun t V=>Qao _ (by omega)) h;obtain⟨k,U⟩:∃k,l'.length=k+1:=⟨l'.length - 1,by omega⟩;exact Qa1 J U (congrArg (fun a:Pl (R F.z)=>a.c k) O)
theorem Qdy.len {a b:Pl (R F.z)} {l l':List Int} (h:Qdy F.z a b l)(I:Qdy F.z a b l'):l.length=l'.length:=by
 have J:=h.up I.da I.db;have O:=I.up h.da h.db;have hz:∀ {l l':List Int},(plI F.z l).dvd (plI F.z l')→QaD F.z l'=l'→l.length=0→l'.length=0:=fun {l l'} g X e=>by
  refine Classical.byContradiction fun ac=>?_
  obtain⟨k,V⟩:∃k,l'.length=k+1:=⟨l'.length - 1,by omega⟩;obtain⟨q,T⟩:=g;have U:l=[]:=List.eq_nil_of_length_eq_zero e;rw[U,Qfj,Qac]at T;exact Qa1 X V (congrArg (fun a:Pl (R F.z)=>a.c k) T)
 by_cases e:l.length=0
 ·have:=hz O I.can e;omega
 ·by_cases Y:l'.length=0
  ·exact absurd (hz J h.can Y) e
  ·have g1:=Qqi h.can I.can (by omega) O;have g2:=Qqi I.can h.can (by omega) J;omega
theorem Qdy.one {a b:Pl (R F.z)} {l:List Int} (h:Qdy F.z a b l):l.length=1↔Cop a b:=by
 constructor
 ·intro e;have h0:cfR F.z l 0≠0:=Qa1 h.can e;obtain⟨u,v,I⟩:=h.bez;refine⟨Pl.k (inv (cfR F.z l 0))*u,Pl.k (inv (cfR F.z l 0))*v,?_⟩;rw[Qa6,Qa6,←QaQ,I];refine Pl.ext' fun t=>?_
  rw[Qee,QmN]
  show _*cfR F.z l t=_
  by_cases J:t=0
  ·subst J;rw[if_pos rfl,QbH h0]
  ·rw[if_neg J,Qao F.z (show l.length≤t by omega),Qac]
 ·rintro⟨u,v,e⟩;have O:(plI F.z l).dvd 1:=by rw[←e];exact (h.da.mul u).add (h.db.mul v)
  have X:l.length≠0:=fun V=>by
   obtain⟨q,I⟩:=O;rw[List.eq_nil_of_length_eq_zero V,Qfj,Qac]at I;have:=congrArg (fun a:Pl (R F.z)=>a.c 0) I;rw[QmN,if_pos rfl]at this;exact QbD this
  refine Classical.byContradiction fun Y=>?_
  obtain⟨n,U⟩:∃n,l.length=n+1:=⟨l.length - 1,by omega⟩;have T:=Qjw (g:=plI F.z l) (a:=1) (n:=n) (fun t J=>Qao _ (by omega)) (Qa1 h.can U) (fun t J=>if_neg (by omega)) O;have:=congrArg (fun a:Pl (R F.z)=>a.c 0) T;rw[QmN,if_pos rfl]at this;exact QbD this
theorem Qdy.monic {p l:List Int} {x:R F.z} (I:x≠0)(J:QaD F.z l=l)(h:∀t,cfR F.z l t=x*cfR F.z p t):Qdy F.z (plI F.z p) 0 l:=by
 have e:plI F.z l=Pl.k x*plI F.z p:=Pl.ext' fun t=>by rw[Qee];exact h t
 have O:plI F.z p=Pl.k (inv x)*plI F.z l:=Pl.ext' fun t=>by
  rw[Qee]
  show cfR F.z p t=inv x*cfR F.z l t
  rw[h t,←Qa6,QbH I,Qav]
 refine⟨J,⟨_,O⟩,Pl.dvd.zero _,Pl.k x,0,?_⟩;rw[Qah,Qad,e]
theorem Qdy.nil:Qdy F.z 0 0 []:=⟨rfl,Pl.dvd.zero _,Pl.dvd.zero _,0,0,by rw[Qfj,Qah,Qad]⟩
end
def Qh3 (D:Desc)(p:List Int):List Int:=Qep (fun i=>ci (nsm (i+1) (cfR D p (i+1)))) (p.length - 1)
theorem Qjz (D:Desc)(p:List Int):plI D (Qh3 D p)=(plI D p).D:=Pl.ext' fun t=>by
 show cfR D (Qh3 D p) t=nsm (t+1) (cfR D p (t+1))
 have h:=QdC (fun i=>nsm (i+1) (cfR D p (i+1))) (p.length - 1) fun i h=>by rw[Qao D (by omega),Qc8]
 exact congrFun h t
theorem Qus (D:Desc)(p:List Int):(Qh3 D p).length≤p.length - 1:=by unfold Qh3;rw[QaH];exact QbY _ _
theorem Qqj (D:Desc)(n:Nat):nsm n (1:R D)=nsm (n % D.p) 1:=by
 have h:n=n / D.p*D.p+n % D.p:=by rw[Nat.mul_comm];exact (Nat.div_add_mod n D.p).symm
 have I:nsm (n / D.p*D.p) (1:R D)=0:=QiR Qfx ⟨n / D.p,Nat.mul_comm _ _⟩ 1;rw[h,QfZ,I,Qai,←h]
theorem Qut (D:Desc)(n:Nat):eli D ((n % D.p:Nat):Int)=nsm n 1:=by
 have hp:=D.p2;have J:=D.m1;have O:n % D.p<D.p:=Nat.mod_lt _ (by omega);have V:D.p≤D.q:=by
  have:D.p ^ 1≤D.p ^ D.m:=Nat.pow_le_pow_right (by omega) J;rw[Nat.pow_one]at this;exact this
 have T:eli D ((n % D.p:Nat):Int)=rel D (n % D.p):=by
  unfold eli;rw[if_pos ⟨by omega,by omega⟩];rfl
 rw[T,Qqj D n];generalize n % D.p=k at O;refine R.ext' fun i I=>?_
 rw[Qtx,Qk9 I];unfold rel;rw[QjY I];by_cases e:i=0
 ·subst e;rw[if_pos rfl,QjX,Nat.pow_zero,Nat.div_one]
 ·have U:k<D.p ^ i:=by
   have:D.p ^ 1≤D.p ^ i:=Nat.pow_le_pow_right (by omega) (by omega);rw[Nat.pow_one]at this;omega
  rw[if_neg e,Qc8,Nat.div_eq_of_lt U,Qes]
end
section
open Cw.CField (inv)
noncomputable def QgH (F:FD)(poly pts:List Int):Nat→Nat→R F.z:=fun i j=>pw (eli F.z (pts[j]?.getD 0)) i*inv (QaW F.z poly (eli F.z (pts[j]?.getD 0)))
def D2:Desc where
 p:=2
 m:=1
 mod:=[]
 hp:=Qbl (by decide) (by decide)
 m1:=by decide
 m8:=by decide
 hq:=by decide
 hlen:=by decide
 hmod:=fun j=>by simp
end
end Go.Proofs
