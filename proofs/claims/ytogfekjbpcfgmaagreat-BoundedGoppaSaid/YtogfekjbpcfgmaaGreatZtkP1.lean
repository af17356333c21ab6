/- Plain algebra: commutative rings, finite sums and products, powers, the binomial theorem and the Frobenius map. -/
import Derived.Test.YtogfekjbpcfgmaaGreatZtkTk
set_option maxRecDepth 100000
set_option maxHeartbeats 16000000
set_option linter.unusedVariables false
namespace Cw
class CRing (R:Type) extends Add R,Mul R,Neg R,Zero R,One R where
 add_assoc':∀a b c:R,a+b+c=a+(b+c)
 add_comm':∀a b:R,a+b=b+a
 zero_add':∀a:R,0+a=a
 neg_add':∀a:R,-a+a=0
 mul_assoc':∀a b c:R,a*b*c=a*(b*c)
 mul_comm':∀a b:R,a*b=b*a
 one_mul':∀a:R,1*a=a
 mul_add':∀a b c:R,a*(b+c)=a*b+a*c
section ring
variable {R:Type} [CRing R]
instance:Sub R:=⟨fun a b=>a+-b⟩
instance:Std.Associative (α:=R) (·+·):=⟨CRing.add_assoc'⟩
instance:Std.Commutative (α:=R) (·+·):=⟨CRing.add_comm'⟩
instance:Std.Associative (α:=R) (·*·):=⟨CRing.mul_assoc'⟩
instance:Std.Commutative (α:=R) (·*·):=⟨CRing.mul_comm'⟩
theorem QbV (a b:R):a - b=a+-b:=rfl
theorem QcD (a b c:R):a+b+c=a+(b+c):=CRing.add_assoc' a b c
theorem QdV (a b:R):a+b=b+a:=CRing.add_comm' a b
theorem Qoz (a b c:R):a+(b+c)=b+(a+c):=by ac_rfl
theorem Qa6 (a b c:R):a*b*c=a*(b*c):=CRing.mul_assoc' a b c
theorem Qb3 (a b:R):a*b=b*a:=CRing.mul_comm' a b
theorem QgZ (a b c:R):a*(b*c)=b*(a*c):=by ac_rfl
theorem Qai (a:R):0+a=a:=CRing.zero_add' a
theorem Qad (a:R):a+0=a:=by rw[QdV];exact Qai a
theorem Qcu (a:R):-a+a=0:=CRing.neg_add' a
theorem QaU (a:R):a+-a=0:=by rw[QdV];exact Qcu a
theorem Qav (a:R):1*a=a:=CRing.one_mul' a
theorem Qax (a:R):a*1=a:=by rw[Qb3];exact Qav a
theorem QaQ (a b c:R):a*(b+c)=a*b+a*c:=CRing.mul_add' a b c
theorem Qbw (a b c:R):(a+b)*c=a*c+b*c:=by rw[Qb3,QaQ,Qb3 c a,Qb3 c b]
theorem Qb4 {a b c:R} (h:a+b=a+c):b=c:=by
 have:-a+(a+b)=-a+(a+c):=by rw[h]
 rwa [←QcD,←QcD,Qcu,Qai,Qai]at this
theorem QgC {a b c:R} (h:b+a=c+a):b=c:=by
 rw[QdV b,QdV c]at h;exact Qb4 h
theorem Qac (a:R):a*0=0:=by
 have h:a*0+a*0=a*0+0:=by rw[←QaQ,Qai,Qad]
 exact Qb4 h
theorem Qah (a:R):0*a=0:=by rw[Qb3];exact Qac a
theorem QbM {a b:R} (h:a+b=0):b=-a:=by
 apply Qb4 (a:=a);rw[h,QaU]
theorem Qg0 (a:R):- -a=a:=(QbM (Qcu a)).symm
theorem QcT:-(0:R)=0:=(QbM (Qai 0)).symm
theorem Qbb (a b:R):-a*b=-(a*b):=QbM (by rw[←Qbw,QaU,Qah])
theorem Qe3 (a b:R):a*-b=-(a*b):=by rw[Qb3,Qbb,Qb3]
theorem Qeq (a b:R):-(a+b)=-a+-b:=(QbM (by
 rw[show a+b+(-a+-b)=(a+-a)+(b+-b) by ac_rfl,QaU,QaU,Qai])).symm
theorem QaV (a:R):a - a=0:=QaU a
theorem Qa3 (a:R):a - 0=a:=by rw[QbV,QcT,Qad]
theorem QcK (a:R):0 - a=-a:=by rw[QbV,Qai]
theorem QbX (a b:R):a - b+b=a:=by rw[QbV,QcD,Qcu,Qad]
theorem QaI (a b:R):a+b - b=a:=by rw[QbV,QcD,QaU,Qad]
theorem Qbg {a b:R} (h:a - b=0):a=b:=by
 have:=QbX a b;rw[h,Qai]at this;exact this.symm
theorem Qm8 {a b c:R}:a - b=c↔a=c+b :=
 ⟨fun h=>by rw[←h,QbX],fun h=>by rw[h,QaI]⟩
theorem QiP (a b c:R):a*(b - c)=a*b - a*c:=by rw[QbV,QaQ,Qe3,QbV]
theorem QdW (a b c:R):(a - b)*c=a*c - b*c:=by rw[QbV,Qbw,Qbb,QbV]
def Qat:Nat→(Nat→R)→R
 |0,_=>0
 |n+1,f=>Qat n f+f n
def Qk2:Nat→(Nat→R)→R
 |0,_=>1
 |n+1,f=>Qk2 n f*f n
theorem QaG (f:Nat→R):Qat 0 f=0:=rfl
theorem Qaj (n:Nat)(f:Nat→R):Qat (n+1) f=Qat n f+f n:=rfl
theorem Qm9 (f:Nat→R):Qk2 0 f=1:=rfl
theorem Qih (n:Nat)(f:Nat→R):Qk2 (n+1) f=Qk2 n f*f n:=rfl
theorem Qaa {n:Nat} {f g:Nat→R} (h:∀i,i<n→f i=g i):Qat n f=Qat n g:=by
 induction n with
 |zero=>rfl
 |succ n ih=>rw[Qaj,Qaj,ih (fun i I=>h i (by omega)),h n (by omega)]
theorem Qg1 (n:Nat):Qat n (fun _=>(0:R))=0:=by
 induction n with
 |zero=>rfl
 |succ n ih=>rw[Qaj,ih,Qai]
theorem Qag {n:Nat} {f:Nat→R} (h:∀i,i<n→f i=0):Qat n f=0:=by
 rw[Qaa h,Qg1]
theorem Qbc (n:Nat)(f g:Nat→R):Qat n (fun i=>f i+g i)=Qat n f+Qat n g:=by
 induction n with
 |zero=>exact (Qai 0).symm
 |succ n ih=>rw[Qaj,Qaj,Qaj,ih];ac_rfl
theorem QcU (n:Nat)(f:Nat→R):Qat n (fun i=>- f i)=- Qat n f:=by
 induction n with
 |zero=>exact QcT.symm
 |succ n ih=>rw[Qaj,Qaj,ih,Qeq]
theorem QdX (n:Nat)(f g:Nat→R):Qat n (fun i=>f i - g i)=Qat n f - Qat n g:=by
 rw[QbV,←QcU,←Qbc];rfl
theorem Qal (n:Nat)(c:R)(f:Nat→R):Qat n (fun i=>c*f i)=c*Qat n f:=by
 induction n with
 |zero=>exact (Qac c).symm
 |succ n ih=>rw[Qaj,Qaj,ih,QaQ]
theorem Qar (n:Nat)(c:R)(f:Nat→R):Qat n (fun i=>f i*c)=Qat n f*c:=by
 rw[Qb3,←Qal];exact Qaa fun i _=>Qb3 _ _
theorem QaX (n m:Nat)(f:Nat→Nat→R):Qat n (fun i=>Qat m (f i))=Qat m (fun j=>Qat n (fun i=>f i j)):=by
 induction n with
 |zero=>exact (Qg1 m).symm
 |succ n ih=>rw[Qaj,ih,←Qbc];rfl
theorem QaE (n:Nat)(f:Nat→R):Qat (n+1) f=f 0+Qat n (fun i=>f (i+1)):=by
 induction n with
 |zero=>rw[Qaj,QaG,Qai,QaG,Qad]
 |succ n ih=>rw[Qaj,ih,Qaj,QcD]
theorem Qco (m n:Nat)(f:Nat→R):Qat (m+n) f=Qat m f+Qat n (fun i=>f (m+i)):=by
 induction n with
 |zero=>rw[QaG,Qad];rfl
 |succ n ih=>rw[←Nat.add_assoc,Qaj,ih,Qaj,QcD]
theorem QiQ {n:Nat} {f:Nat→R} {i:Nat} (I:i<n)(h:f i=0):Qk2 n f=0:=by
 induction n with
 |zero=>omega
 |succ n ih =>
  rw[Qih];by_cases e:i=n
  ·subst e;rw[h,Qac]
  ·rw[ih (by omega),Qah]
theorem Qak {n:Nat} {f:Nat→R} {k:Nat} (O:k<n)(h:∀i,i<n→i≠k→f i=0):Qat n f=f k:=by
 induction n with
 |zero=>omega
 |succ n ih =>
  rw[Qaj];by_cases e:k=n
  ·subst e;rw[Qag (fun i I=>h i (by omega) (by omega)),Qai]
  ·rw[ih (by omega) (fun i I J=>h i (by omega) J),h n (by omega) (by omega),Qad]
theorem Qk3 (n:Nat)(f:Nat→R)(h:f n=f 0):Qat n (fun i=>f (i+1))=Qat n f:=by
 have I:=QaE n f;rw[Qaj,h,QdV]at I;exact (Qb4 I).symm
def nsm:Nat→R→R
 |0,_=>0
 |n+1,x=>nsm n x+x
def pw (x:R):Nat→R
 |0=>1
 |n+1=>pw x n*x
theorem QdY (x:R):nsm 0 x=0:=rfl
theorem Qcd (n:Nat)(x:R):nsm (n+1) x=nsm n x+x:=rfl
theorem QbK (x:R):pw x 0=1:=rfl
theorem Qbi (x:R)(n:Nat):pw x (n+1)=pw x n*x:=rfl
theorem Qii (x:R):pw x 1=x:=Qav x
theorem Qe4 (x:R):nsm 1 x=x:=Qai x
theorem QfZ (m n:Nat)(x:R):nsm (m+n) x=nsm m x+nsm n x:=by
 induction n with
 |zero=>rw[QdY,Qad];rfl
 |succ n ih=>rw[←Nat.add_assoc,Qcd,ih,Qcd,QcD]
theorem Qcv (n:Nat)(x:R):nsm n x=nsm n 1*x:=by
 induction n with
 |zero=>rw[QdY,QdY,Qah]
 |succ n ih=>rw[Qcd,Qcd,Qbw,Qav,←ih]
theorem Qcw (n:Nat)(x y:R):nsm n (x*y)=nsm n x*y:=by
 rw[Qcv n (x*y),Qcv n x,Qa6]
theorem Qk4 (m n:Nat)(x:R):nsm (m*n) x=nsm m (nsm n x):=by
 induction m with
 |zero=>rw[Nat.zero_mul];rfl
 |succ m ih=>rw[Nat.succ_mul,QfZ,ih,Qcd]
theorem QcL (x:R)(m n:Nat):pw x (m+n)=pw x m*pw x n:=by
 induction n with
 |zero=>rw[QbK,Qax];rfl
 |succ n ih=>rw[←Nat.add_assoc,Qbi,ih,Qbi,Qa6]
theorem Qcp (x:R)(m n:Nat):pw x (m*n)=pw (pw x m) n:=by
 induction n with
 |zero=>rfl
 |succ n ih=>rw[Nat.mul_succ,QcL,ih,Qbi]
theorem QjO (x y:R)(n:Nat):pw (x*y) n=pw x n*pw y n:=by
 induction n with
 |zero=>exact (Qav 1).symm
 |succ n ih=>rw[Qbi,Qbi,Qbi,ih];ac_rfl
theorem Qdm (n:Nat):pw (1:R) n=1:=by
 induction n with
 |zero=>rfl
 |succ n ih=>rw[Qbi,ih,Qav]
theorem Qe5 {n:Nat} (h:0<n):pw (0:R) n=0:=by
 obtain⟨k,rfl⟩:∃k,n=k+1:=⟨n - 1,by omega⟩;exact Qac _
theorem QdZ (x:R)(n:Nat):pw x (n+1)=x*pw x n:=by rw[Qbi,Qb3]
def ch:Nat→Nat→Nat
 |_,0=>1
 |0,_+1=>0
 |n+1,k+1=>ch n k+ch n (k+1)
theorem Qg2 (n:Nat):ch n 0=1:=by cases n <;> rfl
theorem Qe6 (n k:Nat):ch (n+1) (k+1)=ch n k+ch n (k+1):=rfl
theorem Qna:∀ (n k:Nat),n<k→ch n k=0
 |_,0,h=>by omega
 |0,k+1,_=>rfl
 |n+1,k+1,h=>by rw[Qe6,Qna n k (by omega),Qna n (k+1) (by omega)]
theorem QoA:∀n:Nat,ch n n=1
 |0=>rfl
 |n+1=>by rw[Qe6,QoA n,Qna n (n+1) (by omega)]
theorem Ql3:∀ (n k:Nat),(k+1)*ch (n+1) (k+1)=(n+1)*ch n k
 |0,0=>rfl
 |0,k+1=>by rw[Qe6,Qna 0 (k+1) (by omega),Qna 0 (k+2) (by omega)];simp
 |n+1,0=>by
  have h:=Ql3 n 0;rw[Qg2]at h;rw[Qe6 (n+1) 0,Qg2];simp only[Nat.zero_add,Nat.one_mul,Nat.mul_one]at *;omega
 |n+1,k+1=>by
  have I:=Ql3 n k;have J:=Ql3 n (k+1);rw[Qe6 (n+1) (k+1),Nat.mul_add,J];have e:(k+1+1)*ch (n+1) (k+1)=(k+1)*ch (n+1) (k+1)+ch (n+1) (k+1):=by rw[Nat.add_mul];omega
  rw[e,I,show (n+1+1)*ch (n+1) (k+1)=(n+1)*ch (n+1) (k+1)+ch (n+1) (k+1) by rw[Nat.add_mul (n+1) 1];omega];rw[Qe6 n k,Nat.mul_add (n+1)];omega
theorem QqQ (x y:R)(n:Nat):pw (x+y) n=Qat (n+1) (fun k=>nsm (ch n k) (pw x k*pw y (n-k))):=by
 induction n with
 |zero=>rw[Qaj,QaG,Qai];show (1:R)=nsm 1 (pw x 0*pw y 0);rw[Qe4,QbK,QbK,Qav]
 |succ n ih =>
  rw[Qbi,ih,QaQ,←Qar,←Qar,QaE (n+1)];have I:Qat (n+1) (fun i=>nsm (ch (n+1) (i+1)) (pw x (i+1)*pw y (n+1-(i+1)))) =
    Qat (n+1) (fun k=>nsm (ch n k) (pw x k*pw y (n-k))*x)+Qat (n+1) (fun i=>nsm (ch n (i+1)) (pw x (i+1)*pw y (n-i))):=by
   rw[←Qbc];refine Qaa fun i O=>?_
   rw[Qe6,QfZ,show n+1-(i+1)=n-i by omega,←Qcw,Qbi]
   congr 2;ac_rfl
  have J:Qat (n+1) (fun k=>nsm (ch n k) (pw x k*pw y (n-k))*y) =
    nsm (ch (n+1) 0) (pw x 0*pw y (n+1-0))+Qat (n+1) (fun i=>nsm (ch n (i+1)) (pw x (i+1)*pw y (n-i))):=by
   rw[QaE,Qaj n (fun i=>nsm (ch n (i+1)) (pw x (i+1)*pw y (n-i))),Qna n (n+1) (by omega),QdY,Qad,Qg2,Qg2]
   congr 1
   ·rw[←Qcw,Qe4,Qe4,Qa6,←Qbi];rfl
   ·refine Qaa fun i O=>?_
    rw[←Qcw,Qa6,←Qbi,show n - (i+1)+1=n - i by omega]
  rw[I,J];ac_rfl
def Qg3 (p:Nat):Prop:=2≤p∧∀d,d∣p→d=1∨d=p
theorem Qg3.dvd_ch {p k:Nat} (hp:Qg3 p)(h0:0<k)(O:k<p):p∣ch p k:=by
 obtain⟨n,rfl⟩:∃n,p=n+1:=⟨p - 1,by omega⟩;obtain⟨j,rfl⟩:∃j,k=j+1:=⟨k - 1,by omega⟩;have h:=Ql3 n j;have I:Nat.Coprime (n+1) (j+1):=by
  have J:=hp.2 (Nat.gcd (n+1) (j+1)) (Nat.gcd_dvd_left _ _);have T:=Nat.le_of_dvd (by omega) (Nat.gcd_dvd_right (n+1) (j+1));rcases J with h |h
  ·exact h
  ·omega
 exact I.dvd_of_dvd_mul_left ⟨_,h⟩
theorem QiR {p n:Nat} (hp:nsm p (1:R)=0)(h:p∣n)(x:R):nsm n x=0:=by
 obtain⟨k,rfl⟩:=h;rw[Nat.mul_comm,Qk4,Qcv p,hp,Qah,Qcv,Qac]
theorem Qk5 {p:Nat} (hp:Qg3 p)(I:nsm p (1:R)=0)(x y:R):pw (x+y) p=pw x p+pw y p:=by
 obtain⟨n,rfl⟩:∃n,p=n+2:=⟨p - 2,by have:=hp.1;omega⟩;rw[QqQ,Qaj,QaE,Qag (fun i J=>QiR I (hp.dvd_ch (by omega) (by omega)) _),Qad,Qg2,QoA,
  Qe4,Qe4,Nat.sub_self,QbK,QbK,Qax,Qav,Nat.sub_zero,QdV]
end ring
end Cw
namespace Cw
class CField (F:Type) extends CRing F where
 inv:F→F
 mul_inv':∀a:F,a≠0→a*inv a=1
 inv_zero':inv 0=0
 one_ne':(1:F)≠0
section cfield
variable {F:Type} [CField F]
open CField (inv)
theorem QbD:(1:F)≠0:=CField.one_ne'
theorem Qd0 {a:F} (h:a≠0):a*inv a=1:=CField.mul_inv' a h
theorem QbH {a:F} (h:a≠0):inv a*a=1:=by rw[Qb3];exact Qd0 h
theorem Qdn:inv (0:F)=0:=CField.inv_zero'
theorem QbN {a b c:F} (h:a≠0)(e:a*b=a*c):b=c:=by
 have:inv a*(a*b)=inv a*(a*c):=by rw[e]
 rwa [←Qa6,←Qa6,QbH h,Qav,Qav]at this
theorem Qbx {a b:F} (h:a*b=0):a=0∨b=0:=by
 by_cases I:a=0
 ·exact .inl I
 ·exact .inr (QbN I (by rw[h,Qac]))
theorem QaS {a b:F} (I:a≠0)(J:b≠0):a*b≠0:=fun h=>(Qbx h).elim I J
theorem Qby {a:F} (h:a≠0):inv a≠0:=fun e=>by
 have:=Qd0 h;rw[e,Qac]at this;exact QbD this.symm
theorem Qc1 {a b:F} (h:a*b=1):b=inv a:=by
 have I:a≠0:=fun e=>by rw[e,Qah]at h;exact QbD h.symm
 exact QbN I (by rw[h,Qd0 I])
theorem Qtp (a:F):inv (inv a)=a:=by
 by_cases h:a=0
 ·rw[h,Qdn,Qdn]
 ·exact (Qc1 (QbH h)).symm
theorem QjP (a b:F):inv (a*b)=inv a*inv b:=by
 by_cases I:a=0
 ·rw[I,Qah,Qdn,Qah]
 by_cases J:b=0
 ·rw[J,Qac,Qdn,Qac]
 refine (Qc1 ?_).symm;rw[show a*b*(inv a*inv b)=(a*inv a)*(b*inv b) by ac_rfl,Qd0 I,Qd0 J,Qax]
theorem Qtq:inv (1:F)=1:=(Qc1 (Qax 1)).symm
theorem QcE {a:F} (h:a≠0)(n:Nat):pw a n≠0:=by
 induction n with
 |zero=>exact QbD
 |succ n ih=>exact QaS ih h
theorem QiS {n:Nat} {f:Nat→F} (h:∀i,i<n→f i≠0):Qk2 n f≠0:=by
 induction n with
 |zero=>exact QbD
 |succ n ih=>exact QaS (ih fun i I=>h i (by omega)) (h n (by omega))
end cfield
class FF (F:Type) extends CField F where
 p:Nat
 M:Nat
 q:Nat
 prime_p:Qg3 p
 M_pos:1≤M
 q_eq:q=p ^ M
 char_p:nsm p (1:F)=0
 code:F→Nat
 el:Nat→F
 code_lt:∀x,code x<q
 el_code:∀x,el (code x)=x
 code_el:∀n,n<q→code (el n)=n
 code_zero:code 0=0
 code_one:code 1=1
 gen:F
 gen_all:∀x:F,x≠0→∃i,i<q - 1∧x=pw gen i
 gen_inj:∀i j,i<q - 1→j<q - 1→pw gen i=pw gen j→i=j
 gen_one:pw gen (q - 1)=1
section ff
variable {F:Type} [FF F]
open FF
open CField (inv)
theorem QiT {x y:F} (h:code x=code y):x=y:=by rw[←el_code x,←el_code y,h]
instance:DecidableEq F:=fun x y=>if h:code x=code y then .isTrue (QiT h) else .isFalse fun e=>h (by rw[e])
theorem Qtr:(el 0:F)=0:=by rw[←code_zero (F:=F),el_code]
theorem QjQ {x:F}:code x=0↔x=0:=⟨fun h=>QiT (by rw[h,code_zero]),fun h=>by rw[h,code_zero]⟩
theorem Qk6:2≤p F:=(prime_p (F:=F)).1
theorem Qh6:2≤q F:=by
 have h:=Nat.pow_le_pow_right (n:=p F) (by have:=Qk6 (F:=F);omega) (M_pos (F:=F));rw[←q_eq,Nat.pow_one]at h;have:=Qk6 (F:=F);omega
theorem QoB:(gen:F)≠0:=fun h=>by
 have I:=gen_one (F:=F);have J:=Qh6 (F:=F);rw[h,Qe5 (by omega)]at I;exact QbD I.symm
theorem QdE (i:Nat):pw (gen:F) (i % (q F - 1))=pw gen i:=by
 conv=>rhs;rw[←Nat.mod_add_div i (q F - 1)]
 rw[QcL,Qcp,gen_one,Qdm,Qax]
theorem Qft (i:Nat):pw (gen:F) i=1↔(q F - 1)∣i:=by
 have I:=Qh6 (F:=F);constructor
 ·intro h;rw[←QdE,←QbK gen]at h;exact Nat.dvd_of_mod_eq_zero (gen_inj _ _ (Nat.mod_lt _ (by omega)) (by omega) h)
 ·rintro⟨k,rfl⟩;rw[Qcp,gen_one,Qdm]
theorem Qva {x:F} (h:x≠0):pw x (q F - 1)=1:=by
 obtain⟨i,_,rfl⟩:=gen_all x h;rw[←Qcp,Nat.mul_comm,Qcp,gen_one,Qdm]
theorem QwP (x:F):pw x (q F)=x:=by
 have I:=Qh6 (F:=F);by_cases h:x=0
 ·rw[h,Qe5 (by omega)]
 ·rw[show q F=(q F - 1)+1 by omega,Qbi,Qva h,Qav]
theorem QsE {x:F} (h:x≠0)(i:Nat):pw x (i % (q F - 1))=pw x i:=by
 conv=>rhs;rw[←Nat.mod_add_div i (q F - 1)]
 rw[QcL,Qcp,Qva h,Qdm,Qax]
def QaO (k:Nat)(x:F):F:=pw x (p F ^ k)
theorem Qa7 (x:F):QaO 0 x=x:=by unfold QaO;rw[Nat.pow_zero,Qii]
theorem Qnb (x:F):QaO 1 x=pw x (p F):=by unfold QaO;rw[Nat.pow_one]
theorem Qbz (j k:Nat)(x:F):QaO j (QaO k x)=QaO (j+k) x:=by
 unfold QaO;rw[←Qcp,Nat.pow_add,Nat.mul_comm]
theorem QdF (k:Nat)(x:F):QaO (k+1) x=pw (QaO k x) (p F):=by
 rw[Nat.add_comm,←Qbz,Qnb]
theorem Qfu (k:Nat)(x y:F):QaO k (x+y)=QaO k x+QaO k y:=by
 induction k with
 |zero=>rw[Qa7,Qa7,Qa7]
 |succ k ih=>rw[QdF,QdF,QdF,ih,Qk5 prime_p char_p]
theorem QeJ (k:Nat)(x y:F):QaO k (x*y)=QaO k x*QaO k y:=QjO _ _ _
theorem Qb5 (k:Nat):QaO k (0:F)=0:=Qe5 (Nat.pow_pos (by have:=Qk6 (F:=F);omega))
theorem QgI (k:Nat):QaO k (1:F)=1:=Qdm _
theorem Ql4 (k:Nat)(x:F):QaO k (-x)=- QaO k x:=QbM (by rw[←Qfu,QaU,Qb5])
theorem QqR (k:Nat)(x y:F):QaO k (x - y)=QaO k x - QaO k y:=by rw[QbV,Qfu,Ql4,QbV]
theorem QqS (k:Nat)(x:F):QaO k (inv x)=inv (QaO k x):=by
 by_cases h:x=0
 ·rw[h,Qdn,Qb5,Qdn]
 ·exact Qc1 (by rw[←QeJ,Qd0 h,QgI])
theorem QjR (x:F):QaO (M F) x=x:=by unfold QaO;rw[←q_eq,QwP]
theorem QjS (k:Nat)(x:F):QaO (M F*k) x=x:=by
 induction k with
 |zero=>exact Qa7 x
 |succ k ih=>rw[Nat.mul_succ,Nat.add_comm,←Qbz,ih,QjR]
theorem QqT (k:Nat)(x:F):QaO (k % M F) x=QaO k x:=by
 conv=>rhs;rw[←Nat.mod_add_div k (M F),←Qbz,QjS]
theorem Qer (k n:Nat)(f:Nat→F):QaO k (Qat n f)=Qat n (fun i=>QaO k (f i)):=by
 induction n with
 |zero=>exact Qb5 k
 |succ n ih=>rw[Qaj,Qfu,ih,Qaj]
def QqU (x:F)(d:Nat):Prop:=1≤d∧QaO d x=x∧∀j,1≤j→j<d→QaO j x≠x
theorem QcM {d:Nat} {x:F} (h:QaO d x=x)(k:Nat):QaO (d*k) x=x:=by
 induction k with
 |zero=>exact Qa7 x
 |succ k ih=>rw[Nat.mul_succ,Nat.add_comm,←Qbz,ih,h]
theorem QjT {d k:Nat} {x:F} (h:QaO d x=x)(I:d∣k):QaO k x=x:=by
 obtain⟨t,rfl⟩:=I;exact QcM h t
theorem QqU.dvd {x:F} {d k:Nat} (h:QqU x d)(I:QaO k x=x):d∣k:=by
 obtain⟨T,J,O⟩:=h;have e:QaO (k % d) x=x:=by
  have:=I;rw[←Nat.mod_add_div k d,←Qbz,QcM J]at this;exact this
 apply Nat.dvd_of_mod_eq_zero;rcases Nat.eq_zero_or_pos (k % d) with h0 |h0
 ·exact h0
 ·exact absurd e (O _ h0 (Nat.mod_lt _ (by omega)))
theorem QqU.dvd_M {x:F} {d:Nat} (h:QqU x d):d∣M F:=h.dvd (QjR x)
def Qbq (d:Nat)(x:F):Prop:=QaO d x=x
theorem Qbq.add {d:Nat} {x y:F} (I:Qbq d x)(J:Qbq d y):Qbq d (x+y):=by unfold Qbq at *;rw[Qfu,I,J]
theorem Qbq.mul {d:Nat} {x y:F} (I:Qbq d x)(J:Qbq d y):Qbq d (x*y):=by unfold Qbq at *;rw[QeJ,I,J]
theorem Qbq.neg {d:Nat} {x:F} (I:Qbq d x):Qbq d (-x):=by unfold Qbq at *;rw[Ql4,I]
theorem Qbq.sub {d:Nat} {x y:F} (I:Qbq d x)(J:Qbq d y):Qbq d (x - y):=by unfold Qbq at *;rw[QqR,I,J]
theorem Qbq.inv {d:Nat} {x:F} (I:Qbq d x):Qbq d (inv x):=by unfold Qbq at *;rw[QqS,I]
theorem Qbq.zero (d:Nat):Qbq d (0:F):=Qb5 d
theorem Qbq.one (d:Nat):Qbq d (1:F):=QgI d
theorem Qbq.mono {d e:Nat} {x:F} (h:Qbq d x)(I:d∣e):Qbq e x:=QjT h I
theorem Qbq.rsum {d n:Nat} {f:Nat→F} (h:∀i,i<n→Qbq d (f i)):Qbq d (Qat n f):=by
 unfold Qbq;rw[Qer];exact Qaa h
def tr (d:Nat)(x:F):F:=Qat (M F / d) (fun i=>QaO (d*i) x)
theorem QsF (d:Nat)(x y:F):tr d (x+y)=tr d x+tr d y:=by
 unfold tr;rw[←Qbc];exact Qaa fun i _=>Qfu _ _ _
theorem Qts {d:Nat} (I:d∣M F)(x:F):QaO d (tr d x)=tr d x:=by
 unfold tr;rw[Qer];have e:∀i,QaO d (QaO (d*i) x)=QaO (d*(i+1)) x:=fun i=>by rw[Qbz,Nat.mul_succ,Nat.add_comm]
 simp only[e];refine Qk3 (M F / d) (fun i=>QaO (d*i) x) ?_
 show QaO (d*(M F / d)) x=QaO (d*0) x
 rw[Nat.mul_div_cancel' I,QjR,Nat.mul_zero,Qa7]
theorem Ql5 {d:Nat} (I:d∣M F)(x:F):Qbq d (tr d x):=Qts I x
end ff
end Cw
namespace Cw
def upd (n k:Nat)(f:Nat→Int):List Int:=(List.range n).map fun i=>if i<k then f i else 0
theorem Qaz (n k:Nat)(f:Nat→Int):(upd n k f).length=n:=by simp[upd]
theorem QaP (n:Nat)(f:Nat→Int):upd n 0 f=List.replicate n 0:=by
 apply List.ext_getElem
 ·simp[upd]
 ·intro i I J;simp[upd]
theorem QaY (n k:Nat)(f:Nat→Int):(upd n k f).set k (f k)=upd n (k+1) f:=by
 apply List.ext_getElem
 ·simp[upd]
 ·intro i J O;simp only[upd,List.getElem_set,List.getElem_map,List.getElem_range];by_cases h:k=i
  ·subst h;simp
  ·rw[if_neg h];by_cases I:i<k
   ·rw[if_pos I,if_pos (by omega)]
   ·rw[if_neg I,if_neg (by omega)]
theorem Qtt {n k i:Nat} (f:Nat→Int)(I:i<n):(upd n k f)[i]?.getD 0=if i<k then f i else 0:=by
 simp[upd,I]
def lst (n:Nat)(f:Nat→Int):List Int:=(List.range n).map f
theorem Qab (n:Nat)(f:Nat→Int):(lst n f).length=n:=by simp[lst]
theorem QaR (n:Nat)(f:Nat→Int):upd n n f=lst n f:=by
 apply List.ext_getElem
 ·simp[upd,lst]
 ·intro i I J;have:i<n:=by simpa [upd] using I
  simp[upd,lst,this]
theorem Qas {n i:Nat} (f:Nat→Int)(I:i<n):(lst n f)[i]?.getD 0=f i:=by simp[lst,I]
theorem Qdo (n:Nat)(f:Nat→Int):lst (n+1) f=lst n f ++ [f n]:=by simp[lst,List.range_succ]
theorem Qay {n:Nat} {f g:Nat→Int} (h:∀i,i<n→f i=g i):lst n f=lst n g:=by
 apply List.ext_getElem
 ·simp[lst]
 ·intro i I J;have:i<n:=by simpa [lst] using I
  simp[lst,h i this]
theorem Qd1 (n k:Nat)(f:Nat→Int)(v:Int):(lst n f).set k v=lst n (fun i=>if i=k then v else f i):=by
 apply List.ext_getElem
 ·simp[lst]
 ·intro i I J;simp only[lst,List.getElem_set,List.getElem_map,List.getElem_range];by_cases h:k=i
  ·subst h;simp
  ·rw[if_neg h,if_neg (fun e=>h e.symm)]
theorem Qd2 (n:Nat):List.replicate n (0:Int)=lst n (fun _=>0):=by
 apply List.ext_getElem
 ·simp[lst]
 ·intro i I J;simp[lst]
theorem QoC (l:List Int):l=lst l.length (fun i=>l[i]?.getD 0):=by
 apply List.ext_getElem
 ·simp[lst]
 ·intro i I J;simp[lst,I]
theorem Qdp {n k:Nat} (f:Nat→Int)(h:k≤n):(lst n f).take k=lst k f:=by
 apply List.ext_getElem
 ·simp[lst];omega
 ·intro i I J;simp[lst]
def mix (n k:Nat)(f h:Nat→Int):List Int:=lst n fun i=>if i<k then f i else h i
theorem Qce (n k:Nat)(f h:Nat→Int):(mix n k f h).length=n:=Qab _ _
theorem Qfv (n:Nat)(f h:Nat→Int):mix n 0 f h=lst n h:=Qay fun i _=>by simp
theorem QiU (n:Nat)(f h:Nat→Int):mix n n f h=lst n f:=Qay fun i I=>by simp[I]
theorem Qtu {n k i:Nat} (f h:Nat→Int)(I:i<n):(mix n k f h)[i]?.getD 0=if i<k then f i else h i:=Qas _ I
theorem Qc2 {n k:Nat} (f h:Nat→Int)(I:k<n):(mix n k f h)[k]?.getD 0=h k:=by rw[Qtu _ _ I];simp
theorem Qf0 (n k:Nat)(f h:Nat→Int):(mix n k f h).set k (f k)=mix n (k+1) f h:=by
 unfold mix;rw[Qd1];refine Qay fun i _=>?_
 by_cases e:i=k
 ·subst e;simp
 ·rw[if_neg e];by_cases I:i<k
  ·rw[if_pos I,if_pos (by omega)]
  ·rw[if_neg I,if_neg (by omega)]
end Cw
namespace Cw
def Zp (p:Nat):Type:=Fin p
section zp
variable {p:Nat} [NeZero p]
theorem Qg4 (p:Nat)[h:NeZero p]:0<p:=Nat.pos_of_ne_zero h.out
def zp (p:Nat)[NeZero p] (n:Nat):Zp p:=⟨n % p,Nat.mod_lt _ (Qg4 p)⟩
def Zp.val (a:Zp p):Nat:=Fin.val a
omit [NeZero p] in
theorem Zp.lt (a:Zp p):a.val<p:=Fin.isLt a
omit [NeZero p] in
theorem Zp.ext {a b:Zp p} (h:a.val=b.val):a=b:=Fin.ext h
theorem Qdq (n:Nat):(zp p n).val=n % p:=rfl
theorem Qfw (a:Zp p):zp p a.val=a:=Zp.ext (Nat.mod_eq_of_lt a.lt)
theorem QjU {a b:Nat} (h:a % p=b % p):zp p a=zp p b:=Zp.ext h
instance:CRing (Zp p) where
 add a b:=zp p (a.val+b.val)
 mul a b:=zp p (a.val*b.val)
 neg a:=zp p (p - a.val)
 zero:=zp p 0
 one:=zp p 1
 add_assoc' a b c:=Zp.ext (by
  show ((a.val+b.val) % p+c.val) % p=(a.val+(b.val+c.val) % p) % p
  rw[Nat.mod_add_mod,Nat.add_mod_mod,Nat.add_assoc])
 add_comm' a b:=QjU (by rw[Nat.add_comm])
 zero_add' a:=Zp.ext (by
  show (0 % p+a.val) % p=a.val
  rw[Nat.mod_add_mod,Nat.zero_add,Nat.mod_eq_of_lt a.lt])
 neg_add' a:=QjU (by
  rw[Qdq,Nat.mod_add_mod,Nat.sub_add_cancel (Nat.le_of_lt a.lt),Nat.mod_self,Nat.zero_mod])
 mul_assoc' a b c:=Zp.ext (by
  show ((a.val*b.val) % p*c.val) % p=(a.val*((b.val*c.val) % p)) % p
  rw[Nat.mod_mul_mod,Nat.mul_mod_mod,Nat.mul_assoc])
 mul_comm' a b:=QjU (by rw[Nat.mul_comm])
 one_mul' a:=Zp.ext (by
  show (1 % p*a.val) % p=a.val
  rw[Nat.mod_mul_mod,Nat.one_mul,Nat.mod_eq_of_lt a.lt])
 mul_add' a b c:=Zp.ext (by
  show (a.val*((b.val+c.val) % p)) % p=((a.val*b.val) % p+(a.val*c.val) % p) % p
  rw[Nat.mul_mod_mod,Nat.mod_add_mod,Nat.add_mod_mod,Nat.mul_add])
theorem Zp.add_val (a b:Zp p):(a+b).val=(a.val+b.val) % p:=rfl
theorem Zp.mul_val (a b:Zp p):(a*b).val=(a.val*b.val) % p:=rfl
theorem Zp.zero_val:(0:Zp p).val=0:=Nat.zero_mod p
theorem QjV (a b:Nat):zp p (a+b)=zp p a+zp p b:=QjU (by rw[Qdq,Qdq,Nat.mod_add_mod,Nat.add_mod_mod])
theorem QjW (a b:Nat):zp p (a*b)=zp p a*zp p b:=QjU (by rw[Qdq,Qdq,Nat.mod_mul_mod,Nat.mul_mod_mod])
theorem Qes:zp p 0=0:=rfl
theorem Ql6:zp p 1=1:=rfl
theorem Qw8:zp p p=0:=QjU (by rw[Nat.mod_self,Nat.zero_mod])
theorem Qvb (n:Nat):zp p (n % p)=zp p n:=QjU (Nat.mod_mod _ _)
theorem QoD {a:Nat} (h:a≤p):zp p (p - a)=- zp p a:=by
 apply QbM;rw[←QjV,Nat.add_sub_cancel' h,Qw8]
theorem QjX (n:Nat):nsm n (1:Zp p)=zp p n:=by
 induction n with
 |zero=>rfl
 |succ n ih=>rw[Qcd,ih,QjV,Ql6]
instance:DecidableEq (Zp p):=inferInstanceAs (DecidableEq (Fin p))
end zp
structure Desc where
 p:Nat
 m:Nat
 mod:List Nat
 hp:Qg3 p
 m1:1≤m
 m8:m≤8
 hq:p ^ m≤256
 hlen:mod.length=if m=1 then 0 else m
 hmod:∀j,mod.getD j 0<p
instance (D:Desc):NeZero D.p:=⟨by have:=D.hp.1;omega⟩
def Desc.c (D:Desc)(j:Nat):Zp D.p:=zp D.p (D.mod.getD j 0)
def Desc.q (D:Desc):Nat:=D.p ^ D.m
theorem Desc.p2 (D:Desc):2≤D.p:=D.hp.1
theorem Desc.p256 (D:Desc):D.p≤256:=by
 have h:=Nat.pow_le_pow_right (n:=D.p) (by have:=D.p2;omega) D.m1;have:=D.hq;rw[Nat.pow_one]at h;omega
structure R (D:Desc) where
 v:Nat→Zp D.p
 sup:∀i,D.m≤i→v i=0
section quo
variable {D:Desc}
theorem R.ext' {u w:R D} (h:∀i,i<D.m→u.v i=w.v i):u=w:=by
 obtain⟨a,I⟩:=u;obtain⟨b,J⟩:=w;have:a=b:=funext fun i=>by
  by_cases O:i<D.m
  ·exact h i O
  ·rw[I i (by omega),J i (by omega)]
 subst this;rfl
def cut (D:Desc)(f:Nat→Zp D.p):R D:=⟨fun i=>if i<D.m then f i else 0,fun i I=>if_neg (by omega)⟩
theorem QjY {f:Nat→Zp D.p} {i:Nat} (h:i<D.m):(cut D f).v i=f i:=if_pos h
def QwQ (D:Desc):R D:=⟨fun _=>0,fun _ _=>rfl⟩
def QsG (u w:R D):R D:=⟨fun i=>u.v i+w.v i,fun i h=>by rw[u.sup i h,w.sup i h,Qai]⟩
def Qxe (u:R D):R D:=⟨fun i=>- u.v i,fun i h=>by rw[u.sup i h,QcT]⟩
def Qet (D:Desc)(k:Nat):R D:=cut D fun i=>if i=k then 1 else 0
def T (u:R D):R D:=cut D fun i=>(if i=0 then 0 else u.v (i - 1)) - u.v (D.m - 1)*D.c i
def Tn:Nat→R D→R D
 |0,u=>u
 |k+1,u=>T (Tn k u)
def act (u w:R D):R D:=cut D fun j=>Qat D.m fun i=>u.v i*(Tn i w).v j
theorem T_v {u:R D} {i:Nat} (h:i<D.m):(T u).v i=(if i=0 then 0 else u.v (i - 1)) - u.v (D.m - 1)*D.c i:=QjY h
theorem Qg5 {u w:R D} {j:Nat} (h:j<D.m):(act u w).v j=Qat D.m fun i=>u.v i*(Tn i w).v j:=QjY h
theorem Qvc (u w:R D):T (QsG u w)=QsG (T u) (T w):=R.ext' fun i I=>by
 show (T (QsG u w)).v i=(T u).v i+(T w).v i
 rw[T_v I,T_v I,T_v I]
 show (if i=0 then 0 else u.v (i-1)+w.v (i-1)) - (u.v (D.m-1)+w.v (D.m-1))*D.c i=_
 rw[Qbw,QbV,QbV,QbV,Qeq];by_cases h:i=0
 ·rw[if_pos h,if_pos h,if_pos h,Qai,Qai,Qai]
 ·rw[if_neg h,if_neg h,if_neg h];ac_rfl
theorem Qtv (k:Nat)(u w:R D):Tn k (QsG u w)=QsG (Tn k u) (Tn k w):=by
 induction k with
 |zero=>rfl
 |succ k ih=>show T (Tn k (QsG u w))=_;rw[ih,Qvc];rfl
theorem Qw9 (k:Nat)(u:R D):Tn k (T u)=T (Tn k u):=by
 induction k with
 |zero=>rfl
 |succ k ih=>show T (Tn k (T u))=_;rw[ih];rfl
theorem QwR (j k:Nat)(u:R D):Tn j (Tn k u)=Tn (j+k) u:=by
 induction j with
 |zero=>rw[Nat.zero_add];rfl
 |succ j ih=>rw[Nat.succ_add];show T (Tn j (Tn k u))=T (Tn (j+k) u);rw[ih]
theorem Qvd (u w:R D):T (act u w)=act u (T w):=R.ext' fun j I=>by
 have J:=D.m1;have e:(T (act u w)).v j=Qat D.m fun i=>u.v i*(T (Tn i w)).v j:=by
  rw[T_v I,Qg5 (by omega:D.m - 1<D.m)];by_cases h:j=0
  ·rw[if_pos h,QcK,←Qar,←QcU];refine Qaa fun i _=>?_
   rw[T_v I,if_pos h,QcK,Qe3,Qa6]
  ·rw[if_neg h,Qg5 (by omega),←Qar,←QdX];refine Qaa fun i _=>?_
   rw[T_v I,if_neg h,QiP,Qa6]
 rw[e,Qg5 I];exact Qaa fun i _=>by rw[Qw9]
theorem Qve (k:Nat)(u w:R D):Tn k (act u w)=act u (Tn k w):=by
 induction k with
 |zero=>rfl
 |succ k ih=>show T (Tn k (act u w))=_;rw[ih,Qvd];rfl
theorem QoE (u v w:R D):act u (act v w)=act v (act u w):=R.ext' fun j I=>by
 rw[Qg5 I,Qg5 I];have e:∀ (u v:R D) (i:Nat),u.v i*(Tn i (act v w)).v j=Qat D.m fun k=>u.v i*(v.v k*(Tn (k+i) w).v j):=fun u v i=>by
  rw[Qve,Qg5 I,←Qal];exact Qaa fun k _=>by rw[QwR]
 rw[Qaa fun i _=>e u v i,Qaa fun i _=>e v u i,QaX];refine Qaa fun i _=>Qaa fun k _=>?_
 rw[Nat.add_comm,QgZ]
theorem Qb6 {k i:Nat} (I:i<D.m):(Qet D k).v i=if i=k then 1 else 0:=QjY I
theorem QoF {k:Nat} (h:k+1<D.m):T (Qet D k)=Qet D (k+1):=R.ext' fun i I=>by
 rw[T_v I,Qb6 I,Qb6 (by omega:D.m - 1<D.m),if_neg (by omega:¬ D.m - 1=k),Qah,Qa3];by_cases h0:i=0
 ·rw[if_pos h0,if_neg (by omega)]
 ·rw[if_neg h0,Qb6 (by omega)];by_cases J:i - 1=k
  ·rw[if_pos J,if_pos (by omega)]
  ·rw[if_neg J,if_neg (by omega)]
theorem Qdr {k:Nat} (h:k<D.m):Tn k (Qet D 0)=Qet D k:=by
 induction k with
 |zero=>rfl
 |succ k ih=>show T (Tn k (Qet D 0))=_;rw[ih (by omega),QoF h]
theorem Qk7 (u:R D):act u (Qet D 0)=u:=R.ext' fun j I=>by
 rw[Qg5 I,Qak (k:=j) I (fun i J O=>by rw[Qdr J,Qb6 I,if_neg (fun h=>O h.symm),Qac]),Qdr I,Qb6 I,if_pos rfl,Qax]
theorem QgJ (u w:R D):act u w=act w u:=by
 conv=>lhs;rw[←Qk7 w,QoE,Qk7]
instance:CRing (R D) where
 add:=QsG
 mul:=act
 neg:=Qxe
 zero:=QwQ D
 one:=Qet D 0
 add_assoc' a b c:=R.ext' fun i _=>QcD _ _ _
 add_comm' a b:=R.ext' fun i _=>QdV _ _
 zero_add' a:=R.ext' fun i _=>Qai _
 neg_add' a:=R.ext' fun i _=>Qcu _
 mul_assoc' a b c:=by
  show act (act a b) c=act a (act b c)
  rw[QgJ (act a b) c,QoE,QgJ c b]
 mul_comm':=QgJ
 one_mul' a:=by show act (Qet D 0) a=a;rw[QgJ,Qk7]
 mul_add' a b c:=R.ext' fun j I=>by
  show (act a (QsG b c)).v j=(act a b).v j+(act a c).v j
  rw[Qg5 I,Qg5 I,Qg5 I,←Qbc];refine Qaa fun i _=>?_
  rw[Qtv,←QaQ];rfl
theorem Qk8 (u w:R D)(i:Nat):(u+w).v i=u.v i+w.v i:=rfl
theorem Qvf (i:Nat):(0:R D).v i=0:=rfl
theorem Qtw (u w:R D){j:Nat} (h:j<D.m):(u*w).v j=Qat D.m fun i=>u.v i*(Tn i w).v j:=Qg5 h
theorem Qk9 {i:Nat} (I:i<D.m):(1:R D).v i=if i=0 then 1 else 0:=Qb6 I
theorem QwS (u w:R D):T (u*w)=u*T w:=Qvd u w
theorem Qvg (u:R D):T u=u*T 1:=by rw[←QwS,Qax]
theorem QoG (n:Nat)(f:Nat→R D)(j:Nat):(Qat n f).v j=Qat n (fun i=>(f i).v j):=by
 induction n with
 |zero=>rfl
 |succ n ih=>rw[Qaj,Qaj,←ih];rfl
theorem Qtx (n:Nat)(u:R D)(j:Nat):(nsm n u).v j=nsm n (u.v j):=by
 induction n with
 |zero=>rfl
 |succ n ih=>rw[Qcd,Qcd,←ih];rfl
theorem Qfx:nsm D.p (1:R D)=0:=R.ext' fun i I=>by
 rw[Qtx,Qcv,QjX,Qw8,Qah];rfl
def sc (s:Zp D.p):R D:=cut D fun i=>if i=0 then s else 0
theorem QqV (s:Zp D.p){i:Nat} (h:i<D.m):(sc (D:=D) s).v i=if i=0 then s else 0:=QjY h
theorem QcV (s:Zp D.p)(u:R D){j:Nat} (I:j<D.m):(sc s*u).v j=s*u.v j:=by
 have T:=D.m1;rw[Qtw _ _ I,Qak (k:=0) (by omega) (fun i J O=>by rw[QqV _ J,if_neg O,Qah]),QqV _ (by omega),if_pos rfl];rfl
theorem Qg6:sc (D:=D) 0=0:=R.ext' fun i I=>by rw[QqV _ I];by_cases h:i=0 <;> simp only[h,if_true,if_false] <;> rfl
theorem QoH:sc (D:=D) 1=1:=R.ext' fun i I=>by rw[QqV _ I,Qk9 I]
theorem QoI (s t:Zp D.p):sc (D:=D) (s+t)=sc s+sc t:=R.ext' fun i I=>by
 rw[Qk8,QqV _ I,QqV _ I,QqV _ I];by_cases h:i=0 <;> simp only[h,if_true,if_false];exact (Qai 0).symm
theorem Ql7 (s t:Zp D.p):sc (D:=D) (s*t)=sc s*sc t:=R.ext' fun i I=>by
 rw[QcV _ _ I,QqV _ I,QqV _ I];by_cases h:i=0 <;> simp only[h,if_true,if_false];exact (Qac s).symm
theorem QsH (s:Zp D.p):sc (D:=D) (-s)=- sc s:=QbM (by rw[←QoI,QaU,Qg6])
theorem R.sum_eq (u:R D):u=Qat D.m (fun i=>sc (u.v i)*pw (T 1) i):=by
 have e:∀i,pw (T (1:R D)) i=Tn i 1:=fun i=>by
  induction i with
  |zero=>rfl
  |succ i ih=>rw[Qbi,ih,←Qvg];rfl
 refine R.ext' fun j I=>?_
 rw[QoG,Qak (k:=j) I (fun i J O=>?_),e,QcV _ _ I,show Tn j (1:R D)=Qet D j from Qdr I,Qb6 I,if_pos rfl,Qax];rw[e,QcV _ _ I,show Tn i (1:R D)=Qet D i from Qdr J,Qb6 I,if_neg (fun h=>O h.symm),Qac]
theorem QsI:pw (T (1:R D)) D.m+Qat D.m (fun i=>sc (D.c i)*pw (T 1) i)=0:=by
 have e:∀i,pw (T (1:R D)) i=Tn i 1:=fun i=>by
  induction i with
  |zero=>rfl
  |succ i ih=>rw[Qbi,ih,←Qvg];rfl
 have V:=D.m1;refine R.ext' fun j I=>?_
 rw[Qk8,QoG,Qak (k:=j) I (fun i O U=>?_),e,e,QcV _ _ I,show Tn j (1:R D)=Qet D j from Qdr I,Qb6 I,if_pos rfl,Qax]
 ·obtain⟨k,J⟩:∃k,D.m=k+1:=⟨D.m - 1,by omega⟩;rw[J]
  show (T (Tn k (Qet D 0))).v j+_=_
  rw[Qdr (by omega),T_v I,Qb6 (by omega:D.m - 1<D.m),if_pos (by omega:D.m - 1=k),Qav];have h0:(if j=0 then (0:Zp D.p) else (Qet D k).v (j - 1))=0:=by
   by_cases h:j=0
   ·rw[if_pos h]
   ·rw[if_neg h,Qb6 (by omega),if_neg (by omega)]
  rw[h0,QcK,Qcu];rfl
 ·rw[e,QcV _ _ I,show Tn i (1:R D)=Qet D i from Qdr O,Qb6 I,if_neg (fun h=>U h.symm),Qac]
def Qds (p:Nat)(f:Nat→Nat):Nat→Nat
 |0=>0
 |m+1=>Qds p f m+f m*p ^ m
theorem Qf1 {p m:Nat} {f g:Nat→Nat} (h:∀i,i<m→f i=g i):Qds p f m=Qds p g m:=by
 induction m with
 |zero=>rfl
 |succ m ih=>show Qds p f m+f m*p ^ m=Qds p g m+g m*p ^ m;rw[ih fun i I=>h i (by omega),h m (by omega)]
theorem Qf2 {p m:Nat} {f:Nat→Nat} (h:∀i,i<m→f i<p):Qds p f m<p ^ m:=by
 induction m with
 |zero=>exact Nat.one_pos
 |succ m ih =>
  have J:=ih fun i O=>h i (by omega)
  have I:=Nat.mul_le_mul_right (p ^ m) (h m (by omega));rw[Nat.succ_mul]at I
  show Qds p f m+f m*p ^ m<p ^ (m+1)
  rw[Nat.pow_succ,Nat.mul_comm (p ^ m)];omega
theorem Qf3 {p:Nat} (hp:0<p){m:Nat} {f:Nat→Nat} (h:∀i,i<m→f i<p){i:Nat} (O:i<m):Qds p f m / p ^ i % p=f i:=by
 induction m with
 |zero=>omega
 |succ m ih =>
  show (Qds p f m+f m*p ^ m) / p ^ i % p=f i
  have I:0<p ^ i:=Nat.pow_pos hp;by_cases e:i=m
  ·subst e;rw[Nat.add_mul_div_right _ _ I,Nat.div_eq_of_lt (Qf2 fun j J=>h j (by omega)),Nat.zero_add,Nat.mod_eq_of_lt (h i (by omega))]
  ·obtain⟨k,rfl⟩:∃k,m=i+1+k:=⟨m - i - 1,by omega⟩;rw[show f (i+1+k)*p ^ (i+1+k)=(f (i+1+k)*p ^ k*p)*p ^ i by rw[Nat.pow_add,Nat.pow_succ];ac_rfl,
    Nat.add_mul_div_right _ _ I,Nat.add_mul_mod_self_right]
   exact ih (fun j J=>h j (by omega)) (by omega)
theorem Qla {p:Nat} (_hp:0<p):∀ (m n:Nat),n<p ^ m→Qds p (fun i=>n / p ^ i % p) m=n:=by
 intro m
 suffices h:∀n,Qds p (fun i=>n / p ^ i % p) m=n % p ^ m from fun n I=>by rw[h,Nat.mod_eq_of_lt I]
 induction m with
 |zero=>intro n;rw[Nat.pow_zero,Nat.mod_one];rfl
 |succ m ih =>
  intro n
  show Qds p (fun i=>n / p ^ i % p) m+n / p ^ m % p*p ^ m=n % p ^ (m+1)
  rw[ih,Nat.pow_succ,Nat.mod_mul,Nat.mul_comm (p ^ m)]
def QaA (u:R D):Nat:=Qds D.p (fun i=>(u.v i).val) D.m
def rel (D:Desc)(n:Nat):R D:=cut D fun i=>zp D.p (n / D.p ^ i)
theorem Qnc {n i:Nat} (h:i<D.m):(rel D n).v i=zp D.p (n / D.p ^ i):=QjY h
theorem QaM (u:R D):QaA u<D.q:=Qf2 fun _ _=>Zp.lt _
theorem QaT (u:R D):rel D (QaA u)=u:=R.ext' fun i I=>by
 rw[Qnc I];apply Zp.ext;rw[Qdq];exact Qf3 (Qg4 D.p) (fun i _=>Zp.lt _) I
theorem QbA {n:Nat} (h:n<D.q):QaA (rel D n)=n:=by
 unfold QaA;rw[Qf1 (g:=fun i=>n / D.p ^ i % D.p) fun i I=>by rw[Qnc I,Qdq]];exact Qla (Qg4 D.p) _ _ h
theorem Qbf {u w:R D} (h:QaA u=QaA w):u=w:=by rw[←QaT u,←QaT w,h]
theorem QoJ (p m:Nat):Qds p (fun _=>0) m=0:=by
 induction m with
 |zero=>rfl
 |succ m ih=>show Qds p (fun _=>0) m+0*p ^ m=0;rw[ih,Nat.zero_mul]
theorem QbJ:QaA (0:R D)=0:=by
 unfold QaA;exact (Qf1 (g:=fun _=>0) fun i I=>Zp.zero_val).trans (QoJ _ _)
theorem QiV:rel D 0=0:=by rw[←QbJ (D:=D),QaT]
theorem Qty:rel D 1=1:=R.ext' fun i I=>by
 rw[Qnc I,Qk9 I];by_cases h:i=0
 ·rw[h,Nat.pow_zero,Nat.div_one,if_pos rfl];rfl
 ·rw[if_neg h,Nat.div_eq_of_lt (Nat.one_lt_pow h D.p2)];rfl
theorem Desc.q2 (D:Desc):2≤D.q:=by
 have h:=Nat.pow_le_pow_right (n:=D.p) (by have:=D.p2;omega) D.m1;have:=D.p2;rw[Nat.pow_one]at h;unfold Desc.q;omega
theorem Qcx:QaA (1:R D)=1:=by rw[←Qty,QbA (by have:=D.q2;omega)]
instance:DecidableEq (R D):=fun x y=>if h:QaA x=QaA y then .isTrue (Qbf h) else .isFalse fun e=>h (by rw[e])
end quo
end Cw
namespace Cw
structure FD extends z:Desc where
 g:R z
 g_all:∀x:R z,x≠0→∃i,i<z.q - 1∧x=pw g i
 g_inj:∀i j,i<z.q - 1→j<z.q - 1→pw g i=pw g j→i=j
 g_one:pw g (z.q - 1)=1
theorem FD.inv_ex (D:FD)(x:R D.z)(h:x≠0):∃y:R D.z,x*y=1:=by
 obtain⟨i,I,rfl⟩:=D.g_all x h;exact⟨pw D.g (D.q - 1 - i),by rw[←QcL,show i+(D.q - 1 - i)=D.q - 1 by omega,D.g_one]⟩
open Classical in
noncomputable def FD.inv (D:FD)(x:R D.z):R D.z:=if h:x≠0 then Classical.choose (D.inv_ex x h) else 0
noncomputable instance (D:FD):FF (R D.z) where
 inv:=D.inv
 mul_inv' a h:=by
  show a*D.inv a=1
  unfold FD.inv;rw[dif_pos h];exact Classical.choose_spec (D.inv_ex a h)
 inv_zero':=by show D.inv 0=0;unfold FD.inv;rw[dif_neg (fun h=>h rfl)]
 one_ne' h:=by
  have I:=Qcx (D:=D.z);rw[h,QbJ]at I;cases I
 p:=D.p
 M:=D.m
 q:=D.q
 prime_p:=D.hp
 M_pos:=D.m1
 q_eq:=rfl
 char_p:=Qfx
 code:=QaA
 el:=rel D.z
 code_lt:=QaM
 el_code:=QaT
 code_el _ h:=QbA h
 code_zero:=QbJ
 code_one:=Qcx
 gen:=D.g
 gen_all:=D.g_all
 gen_inj:=D.g_inj
 gen_one:=D.g_one
def eli (D:Desc)(x:Int):R D:=if 0≤x∧x<D.q then rel D x.toNat else 0
def ci {D:Desc} (u:R D):Int:=(QaA u:Nat)
section
variable {D:Desc}
theorem Qa8 (u:R D):0≤ci u:=Int.natCast_nonneg _
theorem Qeu (u:R D):ci u<D.q:=Int.ofNat_lt.2 (QaM u)
theorem Desc.q256 (D:Desc):D.q≤256:=D.hq
theorem QqW (u:R D):ci u≤255:=by have:=Qeu u;have:=D.q256;omega
theorem QiW (u:R D):(ci u).toNat=QaA u:=Int.toNat_natCast _
theorem Qam (u:R D):eli D (ci u)=u:=by
 unfold eli;rw[if_pos ⟨Qa8 u,Qeu u⟩,QiW,QaT]
theorem Qeh {u w:R D} (h:ci u=ci w):u=w:=by rw[←Qam u,←Qam w,h]
theorem Qci {x:Int} (h:0≤x∧x<D.q):ci (eli D x)=x:=by
 unfold eli ci;rw[if_pos h,QbA (by omega)];omega
theorem Qtz {x:Int} (h:¬ (0≤x∧x<D.q)):eli D x=0:=if_neg h
theorem QaF:ci (0:R D)=0:=by unfold ci;rw[QbJ];rfl
theorem Qei:ci (1:R D)=1:=by unfold ci;rw[Qcx];rfl
theorem Qaq {u:R D}:ci u=0↔u=0:=⟨fun h=>Qeh (by rw[h,QaF]),fun h=>by rw[h,QaF]⟩
theorem Qev {u:R D}:ci u=1↔u=1:=⟨fun h=>Qeh (by rw[h,Qei]),fun h=>by rw[h,Qei]⟩
theorem QbC:eli D 0=0:=by rw[←QaF (D:=D),Qam]
theorem QcQ:eli D 1=1:=by rw[←Qei (D:=D),Qam]
theorem Qcy {n:Nat} (h:n<D.q):eli D n=rel D n:=by
 unfold eli;rw[if_pos ⟨Int.natCast_nonneg _,Int.ofNat_lt.2 h⟩,Int.toNat_natCast]
theorem QsJ {n:Nat} (h:n<D.q):ci (rel D n)=n:=by unfold ci;rw[QbA h]
theorem QsK (x:Int):ci (eli D x)=if 0≤x∧x<D.q then x else 0:=by
 by_cases h:0≤x∧x<D.q
 ·rw[if_pos h,Qci h]
 ·rw[if_neg h,Qtz h,QaF]
def di (u:R D)(i:Nat):Nat:=(u.v i).val
theorem Qd3 (u:R D)(i:Nat):di u i<D.p:=Zp.lt _
theorem Qd4 (u:R D){i:Nat} (h:i<D.m):QaA u / D.p ^ i % D.p=di u i:=by
 conv=>rhs;rw[←QaT u]
 unfold di;rw[Qnc h,Qdq]
theorem QtA (f:Nat→Nat)(h:∀i,i<D.m→f i<D.p):Qds D.p f D.m=QaA (cut D fun i=>zp D.p (f i)):=by
 unfold QaA;exact Qf1 fun i I=>by rw[QjY I,Qdq,Nat.mod_eq_of_lt (h i I)]
theorem QjZ (u w:R D)(i:Nat):di (u+w) i=(di u i+di w i) % D.p:=rfl
theorem QoK (u:R D)(i:Nat):di (-u) i=(D.p - di u i) % D.p:=rfl
theorem Qvh (u:R D)(i:Nat):zp D.p (di u i)=u.v i:=Qfw _
end
end Cw
namespace Cw
section
variable {D:Desc}
def Xc (D:Desc):R D:=T 1
def ev (D:Desc)(f:Nat→Nat)(n:Nat):R D:=Qat n fun k=>sc (zp D.p (f k))*pw (Xc D) k
def fup (f:Nat→Nat)(k v:Nat):Nat→Nat:=fun i=>if i=k then v else f i
theorem QoL (n:Nat):ev D (fun _=>0) n=0:=Qag fun i _=>by rw[Qes,Qg6,Qah]
theorem QiX {f h:Nat→Nat} {n:Nat} (e:∀i,i<n→f i=h i):ev D f n=ev D h n:=Qaa fun i I=>by rw[e i I]
theorem Qd5 (f:Nat→Nat)(n:Nat):ev D f (n+1)=ev D f n+sc (zp D.p (f n))*pw (Xc D) n:=rfl
theorem QoM (f:Nat→Nat){k n:Nat} (v:Nat)(h:n≤k):ev D (fup f k v) n=ev D f n:=QiX fun i I=>if_neg (by omega)
theorem QsL (f:Nat→Nat){k n:Nat} (v:Nat)(h:k<n):ev D (fup f k v) n=ev D f n+(sc (zp D.p v) - sc (zp D.p (f k)))*pw (Xc D) k:=by
 induction n with
 |zero=>omega
 |succ n ih =>
  rw[Qd5,Qd5];by_cases e:k=n
  ·subst e;rw[QoM _ _ ρ,show fup f k v k=v from if_pos rfl,QdW,QbV];rw[show ev D f k+sc (zp D.p (f k))*pw (Xc D) k+(sc (zp D.p v)*pw (Xc D) k+-(sc (zp D.p (f k))*pw (Xc D) k)) =
    ev D f k+sc (zp D.p v)*pw (Xc D) k+(sc (zp D.p (f k))*pw (Xc D) k+-(sc (zp D.p (f k))*pw (Xc D) k)) by ac_rfl,QaU,Qad]
  ·rw[ih (by omega),show fup f k v n=f n from if_neg (by omega)];ac_rfl
theorem Qlb (f:Nat→Nat){k n:Nat} (t:Nat)(h:k<n):ev D (fup f k ((f k+t) % D.p)) n=ev D f n+sc (zp D.p t)*pw (Xc D) k:=by
 rw[QsL f _ h,Qvb,QjV,QoI,QdV (sc (zp D.p (f k))),QaI]
theorem Qfy (u:R D):ev D (di u) D.m=u:=by
 conv=>rhs;rw[R.sum_eq u]
 exact Qaa fun i _=>by rw[Qvh];rfl
theorem Qvi (f:Nat→Nat):ev D f D.m=cut D fun i=>zp D.p (f i):=by
 conv=>rhs;rw[R.sum_eq (cut D fun i=>zp D.p (f i))]
 exact Qaa fun i I=>by rw[QjY I];rfl
theorem QtB (f:Nat→Nat)(h:∀i,i<D.m→f i<D.p):Qds D.p f D.m=QaA (ev D f D.m):=by
 rw[QtA f h,Qvi]
def pp (u v:R D)(i j:Nat):R D:=ev D (di u) i*v+sc (zp D.p (di u i))*pw (Xc D) i*ev D (di v) j
theorem QtC (u v:R D):pp u v 0 0=0:=by
 unfold pp ev;rw[QaG,QaG,Qah,Qac,Qai]
theorem QtD (u v:R D)(i j:Nat):pp u v i (j+1)=pp u v i j+sc (zp D.p (di u i*di v j))*pw (Xc D) (i+j):=by
 unfold pp;rw[Qd5,QaQ,QjW,Ql7,QcL];ac_rfl
theorem Qvj (u v:R D)(i:Nat):pp u v i D.m=pp u v (i+1) 0:=by
 unfold pp;rw[Qfy,Qd5,Qbw]
 show _=_+sc _*pw _ _*Qat 0 _
 rw[QaG,Qac,Qad]
theorem QtE (u v:R D):pp u v D.m 0=u*v:=by
 unfold pp
 show ev D (di u) D.m*v+sc _*pw _ _*Qat 0 _=u*v
 rw[Qfy,QaG,Qac,Qad]
def rd1 (D:Desc)(c s j:Nat):R D:=Qat j fun t=>sc (zp D.p ((D.p - c)*D.mod.getD t 0))*pw (Xc D) (s+t)
theorem QqX (c s:Nat):rd1 D c s 0=0:=rfl
theorem QqY (c s j:Nat):rd1 D c s (j+1)=rd1 D c s j+sc (zp D.p ((D.p - c)*D.mod.getD j 0))*pw (Xc D) (s+j):=rfl
theorem QqZ {c:Nat} (I:c≤D.p)(s:Nat):rd1 D c s D.m=sc (zp D.p c)*pw (Xc D) (s+D.m):=by
 unfold rd1;have e:∀t,sc (zp D.p ((D.p - c)*D.mod.getD t 0))*pw (Xc D) (s+t)=- (sc (zp D.p c)*pw (Xc D) s)*(sc (D.c t)*pw (Xc D) t):=fun t=>by
  rw[QjW,Ql7,QoD I,QsH,QcL,Qbb,Qbb,Qbb]
  show -(sc (zp D.p c)*sc (D.c t)*(pw (Xc D) s*pw (Xc D) t))=_
  congr 1;ac_rfl
 rw[Qaa fun t _=>e t,Qal,Qbb];have J:=QsI (D:=D);have O:Qat D.m (fun i=>sc (D.c i)*pw (Xc D) i)=- pw (Xc D) D.m:=QbM J;rw[O,Qe3,Qg0,Qa6,←QcL]
end
end Cw
namespace Cw
theorem Qdt:∀ (l1 l2:List Nat),l1.Nodup→(∀x∈l1,x∈l2)→l1.length≤l2.length
 | [],_,_,_=>Nat.zero_le _
 |a :: l,l2,h,hs=>by
  have I:a∈l2:=hs a (by simp);have J:=List.nodup_cons.1 h;have T:=Qdt l (l2.erase a) J.2 fun x O=>by
   refine (List.mem_erase_of_ne ?_).2 (hs x (by simp[O]));rintro rfl;exact J.1 O
  rw[List.length_erase_of_mem I]at T;have:=List.length_pos_of_mem I;simp;omega
theorem Qg7 {f:Nat→Nat}:∀ {n:Nat},(∀i j,i<n→j<n→f i=f j→i=j)→((List.range n).map f).Nodup
 |0,_=>by simp
 |n+1,h=>by
  rw[List.range_succ,List.map_append,List.nodup_append];refine⟨Qg7 fun i j I T e=>h i j (by omega) (by omega) e,by simp,fun a O b J e=>?_⟩;obtain⟨i,I,rfl⟩:=List.mem_map.1 O;simp at J I;have:=h i n (by omega) (by omega) (by rw[e,J]);omega
theorem Ql8 {f:Nat→Nat} {n q:Nat} (I:∀i,i<n→f i<q)(J:∀i j,i<n→j<n→f i=f j→i=j):n≤q:=by
 have h:=Qdt _ (List.range q) (Qg7 J) fun x T=>by
  obtain⟨i,O,rfl⟩:=List.mem_map.1 T;exact List.mem_range.2 (I i (List.mem_range.1 O))
 simpa using h
theorem Qlc {f:Nat→Nat} {q:Nat} (T:∀i,i<q→f i<q)(U:∀i j,i<q→j<q→f i=f j→i=j){x:Nat} (V:x<q):∃i,i<q∧f i=x:=by
 apply Classical.byContradiction;intro O;have h:=Ql8 (f:=fun i=>if i<q then f i else x) (n:=q+1) (q:=q) (fun i X=>by
  by_cases e:i<q
  ·simp only[e,if_true];exact T i e
  ·simp only[e,if_false];exact V) (fun i j X Y e=>by
  by_cases I:i<q <;> by_cases J:j<q <;> simp only[I,J,if_true,if_false]at e
  ·exact U i j I J e
  ·exact absurd ⟨i,I,e⟩ O
  ·exact absurd ⟨j,J,e.symm⟩ O
  ·omega)
 omega
section
variable {D:Desc}
def Qdk (u:R D):Prop:=(∀i j,i<D.q - 1→j<D.q - 1→pw u i=pw u j→i=j)∧pw u (D.q - 1)=1
theorem QgK:(1:R D)≠0:=fun h=>by
 have I:=Qcx (D:=D);rw[h,QbJ]at I;cases I
theorem Qdk.ne {u:R D} (h:Qdk u){i:Nat} (J:i≤D.q - 1):pw u i≠0:=fun e=>by
 have I:=h.2;rw[show D.q - 1=i+(D.q - 1 - i) by omega,QcL,e,Qah]at I;exact QgK I.symm
theorem Qdk.all {u:R D} (h:Qdk u)(x:R D)(T:x≠0):∃i,i<D.q - 1∧x=pw u i:=by
 have pos:∀ {y:R D},y≠0→1≤QaA y:=fun {y} X=>by
  rcases Nat.eq_zero_or_pos (QaA y) with h0 |h0
  ·exact absurd (Qbf (h0.trans QbJ.symm)) X
  ·exact h0
 obtain⟨i,I,e⟩:=Qlc (f:=fun i=>QaA (pw u i) - 1) (q:=D.q - 1) (fun i I=>by
   have J:=QaM (pw u i);have O:=pos (h.ne (Nat.le_of_lt I))
   show QaA (pw u i) - 1<D.q - 1
   omega) (fun i j I U e=>h.1 i j I U (Qbf (by
   have J:=pos (h.ne (Nat.le_of_lt I));have O:=pos (h.ne (Nat.le_of_lt U));have V:QaA (pw u i) - 1=QaA (pw u j) - 1:=e;omega))) (x:=QaA x - 1) (by have J:=QaM x;have O:=pos T;omega)
 refine⟨i,I,Qbf ?_⟩;have J:=pos T;have O:=pos (h.ne (Nat.le_of_lt I));have V:QaA (pw u i) - 1=QaA x - 1:=e;omega
def Qvk (D:Desc)(u:R D)(h:Qdk u):FD:=⟨D,u,h.all,h.1,h.2⟩
def Qc9 (u:R D)(N:Nat):Prop:=1≤N∧(∀i j,i<N→j<N→pw u i=pw u j→i=j)∧(∀i,i<N→pw u i≠0)
def Qij (u:R D)(N:Nat):Prop:=pw u N=0∨∃i,i<N∧pw u N=pw u i
theorem Qc9.le {u:R D} {N:Nat} (h:Qc9 u N):N≤D.q - 1:=by
 have pos:∀ {y:R D},y≠0→1≤QaA y:=fun {y} U=>by
  rcases Nat.eq_zero_or_pos (QaA y) with h0 |h0
  ·exact absurd (Qbf (h0.trans QbJ.symm)) U
  ·exact h0
 exact Ql8 (f:=fun i=>QaA (pw u i) - 1) (fun i I=>by
   have O:=QaM (pw u i);have T:=pos (h.2.2 i I)
   show QaA (pw u i) - 1<D.q - 1
   omega) (fun i j I J e=>h.2.1 i j I J (Qbf (by
   have O:=pos (h.2.2 i I);have T:=pos (h.2.2 j J);have V:QaA (pw u i) - 1=QaA (pw u j) - 1:=e;omega)))
theorem Qc9.one (u:R D):Qc9 u 1:=⟨Nat.le_refl _,fun i j I J _=>by omega,fun i I=>by
 obtain rfl:i=0:=by omega
 exact QgK⟩
theorem Qc9.succ {u:R D} {N:Nat} (h:Qc9 u N)(I:¬ Qij u N):Qc9 u (N+1):=by
 refine⟨by omega,fun i j T U e=>?_,fun i T=>?_⟩
 ·by_cases J:i=N
  ·by_cases O:j=N
   ·omega
   ·exact absurd (.inr ⟨j,by omega,by rw[←J];exact e⟩) I
  ·by_cases O:j=N
   ·exact absurd (.inr ⟨i,by omega,by rw[←O];exact e.symm⟩) I
   ·exact h.2.1 i j (by omega) (by omega) e
 ·by_cases J:i=N
  ·subst J;exact fun e=>I (.inl e)
  ·exact h.2.2 i (by omega)
theorem Qc9.gen {u:R D} (h:Qc9 u (D.q - 1))(I:pw u (D.q - 1)=1):Qdk u:=⟨h.2.1,I⟩
theorem Qdk.pwlist {u:R D} (h:Qdk u){N:Nat} (J:Qc9 u N)(O:Qij u N):N=D.q - 1:=by
 have T:=J.le;rcases Nat.lt_or_ge N (D.q - 1) with I |U
 ·rcases O with h0 |⟨i,V,e⟩
  ·exact absurd h0 (h.ne (Nat.le_of_lt I))
  ·have:=h.1 N i I (by omega) e;omega
 ·omega
end
end Cw
namespace Cw
def dIn (p c s:Nat)(I:Nat→Nat):Nat→(Nat→Nat)→(Nat→Nat)
 |0,r=>r
 |j+1,r=>fup (dIn p c s I j r) (s+j) ((dIn p c s I j r (s+j)+(p - c)*I j) % p)
def Qik (p d m:Nat)(I:Nat→Nat):Nat→(Nat→Nat)→(Nat→Nat)
 |0,r=>r
 |t+1,r=>fup (dIn p (Qik p d m I t r (m - t)) (m - t - d) I d (Qik p d m I t r)) (m - t) 0
def mon (m:Nat)(I:Nat→Nat):Nat→Nat:=fun i=>if i<m then I i else 1
def dvB (p d m:Nat)(I J:Nat→Nat):Bool:=decide (∀k,k<m+1→Qik p d m I (m+1 - d) (mon m J) k=0)
theorem QoN {p:Nat} {f:Nat→Nat} (h:∀i,f i<p){v:Nat} (I:v<p)(k:Nat):∀i,fup f k v i<p:=fun i=>by
 unfold fup;by_cases e:i=k
 ·rw[if_pos e];exact I
 ·rw[if_neg e];exact h i
theorem QsM {p:Nat} (hp:0<p)(c s:Nat)(I:Nat→Nat){r:Nat→Nat} (h:∀i,r i<p):∀j i,dIn p c s I j r i<p
 |0=>h
 |j+1=>QoN (QsM hp c s I h j) (Nat.mod_lt _ hp) _
theorem Qld {p:Nat} (hp:0<p)(d m:Nat)(I:Nat→Nat){r:Nat→Nat} (h:∀i,r i<p):∀t i,Qik p d m I t r i<p
 |0=>h
 |t+1=>QoN (QsM hp _ _ I (Qld hp d m I h t) d) hp _
theorem QoO {p m:Nat} (hp:2≤p){I:Nat→Nat} (h:∀i,I i<p):∀i,mon m I i<p:=fun i=>by
 unfold mon;by_cases e:i<m
 ·rw[if_pos e];exact h i
 ·rw[if_neg e];omega
end Cw
namespace Cw
theorem Qj0 {p:Nat} {f:Nat→Nat} {m k:Nat} (J:k≤m)(h:∀i,k≤i→i<m→f i=0):Qds p f m=Qds p f k:=by
  induction m with
  | zero => obtain rfl : k = 0 := by omega
            rfl
  |succ m ih =>
    by_cases e:k=m+1
    · subst e;rfl
    · show Qds p f m+f m*p ^ m=_
      rw[ih (by omega) (fun i I O=>h i I (by omega)),h m (by omega) (by omega),Nat.zero_mul,Nat.add_zero]
theorem QiY (f:Nat→Nat)(h:∀i,f i<2)(m i:Nat):(Qds 2 f m).testBit i=(decide (i<m)&&decide (f i=1)):=by
 by_cases I:i<m
 ·rw[Nat.testBit_eq_decide_div_mod_eq,Qf3 (by decide) (fun j _=>h j) I];simp[I]
 ·have J:=Qf2 (p:=2) (m:=m) (f:=f) (fun j _=>h j);rw[Nat.testBit_lt_two_pow (θ J (Nat.pow_le_pow_right (by decide) (by omega)))];simp[I]
section
variable {D:Desc}
theorem QtF (U:D.p=2)(u v:R D):QaA u ^^^ QaA v=QaA (u+v):=by
 apply Nat.eq_of_testBit_eq;intro i;have T:∀w:R D,QaA w=Qds 2 (di w) D.m:=fun w=>by
  show Qds D.p (di w) D.m=_;rw[U]
 have I:∀ (w:R D) (j:Nat),di w j<2:=fun w j=>by have:=Qd3 w j;omega
 rw[Nat.testBit_xor,T,T,T,QiY _ (I u),QiY _ (I v),QiY _ (I (u+v)),QjZ,U];have X:=I u i;have Y:=I v i;by_cases V:i<D.m
 ·have J:di u i=0∨di u i=1:=by omega
  have O:di v i=0∨di v i=1:=by omega
  rcases J with J |J <;> rcases O with O |O <;> simp[V,J,O]
 ·simp[V]
theorem Qew (u:R D){k:Nat} (h:D.m≤k):QaA u / D.p ^ k=0:=by
 apply Nat.div_eq_of_lt;exact θ (QaM u) (Nat.pow_le_pow_right (by have:=D.p2;omega) h)
theorem Qq0 (u v:R D){k:Nat} (O:k≤D.m)(T:QaA u / D.p ^ k=0)(U:QaA v / D.p ^ k=0):Qds D.p (di (u+v)) k=QaA (u+v):=by
 have z:∀ (w:R D) (i:Nat),QaA w / D.p ^ k=0→k≤i→i<D.m→di w i=0:=fun w i h J I=>by
  rw[←Qd4 w I];obtain⟨t,rfl⟩:∃t,i=k+t:=⟨i - k,by omega⟩;rw[Nat.pow_add,←Nat.div_div_eq_div_mul,h,Nat.zero_div,Nat.zero_mod]
 exact (Qj0 O fun i J I=>by rw[QjZ,z u i T J I,z v i U J I,Nat.zero_add,Nat.zero_mod]).symm
theorem QoP (u v:R D){k:Nat} (I:k<D.m):(QaA u / D.p ^ k % D.p+QaA v / D.p ^ k % D.p) % D.p=di (u+v) k:=by
 rw[Qd4 u I,Qd4 v I,QjZ]
theorem Qq1 (u:R D){k:Nat} (O:k≤D.m)(T:QaA u / D.p ^ k=0):Qds D.p (di (-u)) k=QaA (-u):=by
 have z:∀ (i:Nat),k≤i→i<D.m→di (-u) i=0:=fun i J I=>by
  have:di u i=0:=by
   rw[←Qd4 u I];obtain⟨t,rfl⟩:∃t,i=k+t:=⟨i - k,by omega⟩;rw[Nat.pow_add,←Nat.div_div_eq_div_mul,T,Nat.zero_div,Nat.zero_mod]
  rw[QoK,this,Nat.sub_zero,Nat.mod_self]
 exact (Qj0 O fun i J I=>z i J I).symm
theorem QoQ (u:R D){k:Nat} (I:k<D.m):(D.p - QaA u / D.p ^ k % D.p) % D.p=di (-u) k:=by
 rw[Qd4 u I,QoK]
end
end Cw
namespace Cw
section poly
variable {F:Type} [CField F]
open CField (inv)
def pev:List F→F→F
 | [],_=>0
 |c :: l,x=>c+x*pev l x
def pqt (a:F):List F→List F
 | []=>[]
 | [_]=>[]
 |_ :: c :: l=>pev (c :: l) a :: pqt a (c :: l)
theorem Qil (a:F):∀l:List F,(pqt a l).length=l.length - 1
 | []=>rfl
 | [_]=>rfl
 |_ :: c :: l=>by
  show (pqt a (c :: l)).length+1=_
  rw[Qil a (c :: l)];simp
theorem QsN (a x:F):∀l:List F,pev l x=pev l a+(x - a)*pev (pqt a l) x
 | []=>by show (0:F)=0+(x - a)*0;rw[Qac,Qad]
 | [c]=>by
  show c+x*0=c+a*0+(x - a)*0
  rw[Qac,Qac,Qac,Qad,Qad]
 |b :: c :: l=>by
  have I:=QsN a x (c :: l)
  show b+x*pev (c :: l) x=b+a*pev (c :: l) a+(x - a)*(pev (c :: l) a+x*pev (pqt a (c :: l)) x)
  generalize pev (pqt a (c :: l)) x=s at *;generalize pev (c :: l) a=t at *;rw[I,QaQ x,QaQ (x - a),QdW x a t,QbV (x*t)];rw[show b+a*t+(x*t+-(a*t)+(x - a)*(x*s))=b+(x*t+x*((x - a)*s))+(a*t+-(a*t)) by ac_rfl,QaU,Qad]
theorem Qex:∀ (r:List F) (l:List F),l.length≤r.length→r.Nodup→(∀x∈r,pev l x=0)→∀c∈l,c=0
 | [],l,hl,_,_,c,I=>by
  have:l=[]:=List.eq_nil_of_length_eq_zero (by simpa using hl);rw[this]at I;cases I
 |a :: r,[],_,_,_,c,I=>by cases I
 |a :: r,[b],_,_,h0,c,I=>by
  have O:=h0 a (by simp);have J:b+a*0=0:=O;rw[Qac,Qad]at J;simp at I;rw[I,J]
 |a :: r,b :: b' :: l,hl,hnd,h0,c,I=>by
  have U:=List.nodup_cons.1 hnd;have V:=h0 a (by simp);have hq:=Qex r (pqt a (b :: b' :: l)) (by rw[Qil];simp at hl ⊢;omega) U.2 fun x Y=>by
   have O:=h0 x (by simp[Y]);rw[QsN a x,V,Qai]at O;rcases Qbx O with J |J
   ·exact absurd (Qbg J) (fun e=>U.1 (e ▸ Y))
   ·exact J
  have ab:∀l:List F,(∀c∈pqt a l,c=0)→pev l a=0→∀c∈l,c=0:=fun l=>by
   induction l with
   |nil=>intro _ _ c I;cases I
   |cons b l ih =>
    intro O J c I
    cases l with
    |nil =>
     have T:b+a*0=0:=J;rw[Qac,Qad]at T;simp at I;rw[I,T]
    |cons b' l =>
     have T:pev (b' :: l) a=0:=O _ (by simp[pqt]);have X:b+a*pev (b' :: l) a=0:=J;rw[T,Qac,Qad]at X;rcases List.mem_cons.1 I with e |e
     ·rw[e,X]
     ·exact ih (fun c I=>O c (by simp only[pqt,List.mem_cons];exact .inr I)) T c e
  exact ab _ hq V c I
theorem Qnd (l l':List F)(x:F):pev (l ++ l') x=pev l x+pw x l.length*pev l' x:=by
 induction l with
 |nil=>show pev l' x=0+1*pev l' x;rw[Qai,Qav]
 |cons c l ih =>
  show c+x*pev (l ++ l') x=c+x*pev l x+pw x (l.length+1)*pev l' x
  rw[ih,QaQ,QdZ,QcD,Qa6]
theorem Qf4 (f:Nat→F)(x:F):∀n,pev ((List.range n).map f) x=Qat n (fun i=>f i*pw x i)
 |0=>rfl
 |n+1=>by
  rw[List.range_succ,List.map_append,Qnd,Qf4 f x n,Qaj]
  congr 1
  show pw x _*(f n+x*0)=_
  rw[Qac,Qad,List.length_map,List.length_range,Qb3]
theorem QeK {n:Nat} {f:Nat→F} {a:Nat→F} (J:∀i j,i<n→j<n→a i=a j→i=j)(h:∀k,k<n→Qat n (fun i=>f i*pw (a k) i)=0){i:Nat} (O:i<n):f i=0:=by
 refine Qex ((List.range n).map a) ((List.range n).map f) (by simp) ?_ ?_ (f i) (List.mem_map.2 ⟨i,List.mem_range.2 O,rfl⟩)
 ·refine List.pairwise_map.2 (List.Pairwise.imp_of_mem ?_ (List.nodup_range (n:=n)));intro x y I U V e;exact V (J x y (List.mem_range.1 I) (List.mem_range.1 U) e)
 ·intro x I;obtain⟨k,T,rfl⟩:=List.mem_map.1 I;rw[Qf4];exact h k (List.mem_range.1 T)
end poly
def geo (Q:Nat):Nat→Nat
 |0=>0
 |n+1=>geo Q n+Q ^ n
theorem QoR {Q:Nat} (I:1≤Q):∀n,(Q - 1)*geo Q n+1=Q ^ n
 |0=>by simp[geo]
 |n+1=>by
  show (Q - 1)*(geo Q n+Q ^ n)+1=Q ^ (n+1)
  have J:=QoR I n;rw[Nat.mul_add,Nat.pow_succ];have O:(Q - 1)*Q ^ n+Q ^ n=Q ^ n*Q:=by
   rw[←Nat.succ_mul,Nat.mul_comm];congr 1;omega
  omega
section ff
variable {F:Type} [FF F]
open FF
open CField (inv)
theorem QtG {d:Nat} (I:d∣M F):(p F ^ d - 1)*geo (p F ^ d) (M F / d)+1=q F:=by
 rw[QoR (Nat.pow_pos (by have:=Qk6 (F:=F);omega)),←Nat.pow_mul,Nat.mul_div_cancel' I,q_eq]
theorem Ql9 {d:Nat} (I:1≤d):2≤p F ^ d:=by
 have h:=Nat.pow_le_pow_right (n:=p F) (by have:=Qk6 (F:=F);omega) I;have:=Qk6 (F:=F);rw[Nat.pow_one]at h;omega
theorem QoS {d:Nat} (I:d∣M F):1≤geo (p F ^ d) (M F / d):=by
 have h:=QtG (F:=F) I;have:=Qh6 (F:=F);rcases Nat.eq_zero_or_pos (geo (p F ^ d) (M F / d)) with h0 |h0
 ·rw[h0,Nat.mul_zero]at h;omega
 ·exact h0
theorem QtH {d:Nat} (J:d∣M F)(V:1≤d)(i:Nat):QaO d (pw (gen:F) i)=pw gen i↔geo (p F ^ d) (M F / d)∣i:=by
 have O:=QtG (F:=F) J;have X:=Ql9 (F:=F) V;obtain⟨Q,hQ⟩:=ε (p F ^ d);obtain⟨e,U⟩:=ε (geo (p F ^ d) (M F / d));have ac:1≤e:=by rw[U];exact QoS J
 rw[←U]at O ⊢;unfold QaO;rw[←hQ]at O X ⊢;have Y:pw (gen:F) i≠0:=QcE QoB i;have aa:pw (pw (gen:F) i) Q=pw gen (i*(Q - 1))*pw gen i:=by
  rw[←Qcp,←QcL];congr 1;rw[←Nat.mul_succ];congr 1;omega
 have T:q F - 1=(Q - 1)*e:=by omega
 rw[aa];constructor
 ·intro h;have I:pw (gen:F) (i*(Q - 1))=1:=by
   rw[Qb3]at h;exact QbN Y (by rw[h,Qax])
  rw[Qft,T,Nat.mul_comm i]at I;exact Nat.dvd_of_mul_dvd_mul_left (by omega) I
 ·rintro⟨k,rfl⟩;have I:pw (gen:F) (e*k*(Q - 1))=1:=by
   rw[Qft,T];exact⟨k,by ac_rfl⟩
  rw[I,Qav]
theorem QoT {d:Nat} (U:d∣M F)(X:1≤d):((List.range (q F)).filter fun n=>decide (QaO d (el n:F)=el n)).length=p F ^ d:=by
 have hq:=QtG (F:=F) U;have h2:=Ql9 (F:=F) X;have Y:=QoS (F:=F) U;have V:=QtH (F:=F) U X;obtain⟨e,he⟩:=ε (geo (p F ^ d) (M F / d));obtain⟨Q,hQ⟩:=ε (p F ^ d);rw[←he]at V Y;rw[←he,←hQ]at hq;rw[←hQ]at h2 ⊢;have aa:∀t,t<Q - 1→e*t<q F - 1:=fun t ht=>by
  have:e*(t+1)≤e*(Q - 1):=Nat.mul_le_mul_left e ht;rw[Nat.mul_comm e (Q - 1),Nat.mul_succ]at this;omega
 have ah:(0 :: (List.range (Q - 1)).map fun t=>code (pw (gen:F) (e*t))).Nodup:=by
  refine List.nodup_cons.2 ⟨fun h=>?_,Qg7 fun i j T hj h=>?_⟩
  ·obtain⟨t,-,h⟩:=List.mem_map.1 h;exact QcE (QoB (F:=F)) _ (QjQ.1 h)
  ·have h3:=gen_inj (F:=F) _ _ (aa i T) (aa j hj) (QiT h);exact Nat.eq_of_mul_eq_mul_left Y h3
 have aj:(0 :: (List.range (Q - 1)).map fun t=>code (pw (gen:F) (e*t))).length=Q:=by simp;omega
 rw[←aj];apply Nat.le_antisymm
 ·refine Qdt _ _ (List.Nodup.sublist List.filter_sublist List.nodup_range) fun n I=>?_
  obtain⟨J,O⟩:=List.mem_filter.1 I;replace J:=List.mem_range.1 J;replace O:=of_decide_eq_true O;by_cases h0:(el n:F)=0
  ·have:n=0:=by rw[←code_el (F:=F) n J,h0,code_zero]
   simp[this]
  ·obtain⟨i,T,hx⟩:=gen_all (el n:F) h0;rw[hx,V]at O;obtain⟨t,rfl⟩:=O;refine List.mem_cons.2 (.inr (List.mem_map.2 ⟨t,List.mem_range.2 ?_,?_⟩))
   ·rw[show q F - 1=e*(Q - 1) by rw[Nat.mul_comm];omega]at T;exact Nat.lt_of_mul_lt_mul_left T
   ·rw[←hx,code_el _ J]
 ·refine Qdt _ _ ah fun n I=>?_
  rcases List.mem_cons.1 I with rfl |I
  ·refine List.mem_filter.2 ⟨List.mem_range.2 (by have:=Qh6 (F:=F);omega),decide_eq_true ?_⟩;rw[Qtr,Qb5]
  ·obtain⟨t,ht,rfl⟩:=List.mem_map.1 I;refine List.mem_filter.2 ⟨List.mem_range.2 (code_lt _),decide_eq_true ?_⟩;rw[el_code,V];exact⟨t,rfl⟩
theorem Qne (d j:Nat)(x:F):tr d (QaO j x)=QaO j (tr d x):=by
 unfold tr;rw[Qer];exact Qaa fun i _=>by rw[Qbz,Qbz,Nat.add_comm]
theorem QoU {d:Nat} (T:d∣M F)(J:1≤d):∃x:F,tr d x≠0:=by
 apply Classical.byContradiction;intro aa;have hz:∀x:F,tr d x=0:=fun x=>Classical.byContradiction fun h=>aa ⟨x,h⟩
 have h2:=Ql9 (F:=F) J;have U:1≤M F / d:=Nat.div_pos (Nat.le_of_dvd (M_pos (F:=F)) T) J;have V:∀j,j<M F / d→p F ^ (d*j)<q F:=fun j I=>by
  rw[q_eq];refine Nat.pow_lt_pow_right (by have:=Qk6 (F:=F);omega) ?_;have:d*(j+1)≤d*(M F / d):=Nat.mul_le_mul_left d I;rw[Nat.mul_div_cancel' T,Nat.mul_succ]at this;omega
 have X:=QeK (n:=q F) (f:=fun i=>Qat (M F / d) fun j=>if i=p F ^ (d*j) then (1:F) else 0) (a:=fun n=>(el n:F))
  (fun i j hi I h=>by rw[←code_el (F:=F) i hi,←code_el (F:=F) j I];exact congrArg code h)
  (fun k _=>by
   show Qat (q F) (fun i=>Qat (M F / d) (fun j=>if i=p F ^ (d*j) then (1:F) else 0)*pw (el k) i)=0
   refine Eq.trans ?_ (hz (el k));unfold tr;rw[Qaa fun i _=>(Qar (M F / d) (pw (el k:F) i) (fun j=>if i=p F ^ (d*j) then (1:F) else 0)).symm,QaX];refine Qaa fun j I=>?_
   rw[Qak (k:=p F ^ (d*j)) (V j I) fun i _ O=>by rw[if_neg O,Qah],if_pos rfl,Qav];rfl) (i:=1) (by have:=Qh6 (F:=F);omega)
 have Y:Qat (M F / d) (fun j=>if 1=p F ^ (d*j) then (1:F) else 0)=1:=by
  rw[Qak (k:=0) U fun j _ O=>if_neg ?_,Nat.mul_zero,Nat.pow_zero,if_pos rfl];intro e;have I:1≤d*j:=Nat.mul_pos J (Nat.pos_of_ne_zero O);have h3:=Ql9 (F:=F) I;omega
 exact QbD (Y.symm.trans X)
end ff
end Cw
namespace Cw
section ord
variable {F:Type} [CField F]
open CField (inv)
def QcW (x:F)(n:Nat):Prop:=1≤n∧pw x n=1∧∀k,pw x k=1→n∣k
theorem QcW.of_least {x:F} {n:Nat} (I:1≤n)(J:pw x n=1)(T:∀k,1≤k→k<n→pw x k≠1):QcW x n:=by
 refine⟨I,J,fun k O=>?_⟩;have e:pw x (k % n)=1:=by
  have h:=Nat.div_add_mod k n;rw[←h,QcL,Qcp,J,Qdm,Qav]at O;exact O
 rcases Nat.eq_zero_or_pos (k % n) with h0 |h0
 ·exact Nat.dvd_of_mod_eq_zero h0
 ·exact absurd e (T _ h0 (Nat.mod_lt _ I))
theorem QcW.exists {x:F} {n:Nat} (T:1≤n)(U:pw x n=1):∃m,m≤n∧QcW x m:=by
 induction n using Nat.strongRecOn with
 |ind n ih =>
  by_cases h:∃k,1≤k∧k<n∧pw x k=1
  ·obtain⟨k,I,J,O⟩:=h;obtain⟨m,m1,m2⟩:=ih k J I O;exact⟨m,by omega,m2⟩
  ·exact⟨n,Nat.le_refl _,QcW.of_least T U fun k I J O=>h ⟨k,I,J,O⟩⟩
theorem QcW.pow {x:F} {n d:Nat} (h:QcW x n)(U:d∣n):QcW (pw x d) (n / d):=by
 obtain⟨e,rfl⟩:=U;have J:=h.1;have O:0<d:=Nat.pos_of_ne_zero fun I=>by rw[I,Nat.zero_mul]at J;omega
 have V:0<e:=Nat.pos_of_ne_zero fun I=>by rw[I,Nat.mul_zero]at J;omega
 rw[Nat.mul_div_cancel_left _ O];refine⟨V,by rw[←Qcp];exact h.2.1,fun k T=>?_⟩;rw[←Qcp]at T;exact Nat.dvd_of_mul_dvd_mul_left O (h.2.2 _ T)
theorem QcW.mul {x y:F} {m n:Nat} (I:QcW x m)(J:QcW y n)(O:Nat.Coprime m n):QcW (x*y) (m*n):=by
 refine⟨Nat.mul_pos I.1 J.1,?_,fun k T=>?_⟩
 ·rw[QjO,Qcp,I.2.1,Qdm,Qav,Nat.mul_comm,Qcp,J.2.1,Qdm]
 ·rw[QjO]at T;have U:n∣m*k:=J.2.2 _ (by
   have e:pw (pw x k*pw y k) m=1:=by rw[T,Qdm]
   rw[QjO,←Qcp,←Qcp,Nat.mul_comm k m,Qcp x,I.2.1,Qdm,Qav]at e;exact e)
  have V:m∣n*k:=I.2.2 _ (by
   have e:pw (pw x k*pw y k) n=1:=by rw[T,Qdm]
   rw[QjO,←Qcp,←Qcp,Nat.mul_comm k n,Qcp y,J.2.1,Qdm,Qax]at e;exact e)
  exact Nat.Coprime.mul_dvd_of_dvd_of_dvd O (O.dvd_of_dvd_mul_left V) (O.symm.dvd_of_dvd_mul_left U)
end ord
theorem Qj1:∀n:Nat,2≤n→∃r,Qg3 r∧r∣n:=fun n U=>by
 induction n using Nat.strongRecOn with
 |ind n ih =>
  by_cases h:∃d,d∣n∧d≠1∧d≠n
  ·obtain⟨d,I,d2,d3⟩:=h;have X:d≠0:=fun e=>by rw[e]at I;have:=Nat.eq_zero_of_zero_dvd I;omega
   have Y:=Nat.le_of_dvd (by omega) I;obtain⟨r,O,T⟩:=ih d (by omega) (by omega);exact⟨r,O,Nat.dvd_trans T I⟩
  ·exact⟨n,⟨U,fun d V=>Classical.byContradiction fun J=>h ⟨d,V,fun e=>J (.inl e),fun e=>J (.inr e)⟩⟩,Nat.dvd_refl _⟩
theorem Qg8 {r:Nat} (I:2≤r):∀n:Nat,1≤n→∃e,r ^ e∣n∧¬ r∣n / r ^ e:=fun n V=>by
 induction n using Nat.strongRecOn with
 |ind n ih =>
  by_cases h:r∣n
  ·obtain⟨k,rfl⟩:=h;have J:1≤k:=Nat.pos_of_ne_zero fun e=>by rw[e]at V;omega
   have O:k<r*k:=by have:=Nat.mul_le_mul_right k I;omega
   obtain⟨e,T,U⟩:=ih k O J;refine⟨e+1,?_,?_⟩
   ·rw[Nat.pow_succ,Nat.mul_comm];exact Nat.mul_dvd_mul_left r T
   ·rw[Nat.pow_succ,Nat.mul_comm (r ^ e),Nat.mul_div_mul_left _ _ (by omega)];exact U
  ·exact⟨0,by simp,by simpa using h⟩
theorem Qg3.coprime {r n:Nat} (J:Qg3 r)(h:¬ r∣n):Nat.Coprime n r:=by
 have O:=Nat.gcd_dvd_right n r;rcases J.2 _ O with I |I
 ·exact I
 ·exact absurd (I ▸ Nat.gcd_dvd_left n r) h
section cyc
variable {F:Type} [CField F]
theorem QoV {g h:F} {N b:Nat} (hg:QcW g N)(hh:QcW h b)(af:¬ b∣N):∃x:F,∃n,QcW x n∧N<n:=by
 have hb:=hh.1;have hN:=hg.1;obtain⟨c,T⟩:=ε (Nat.gcd b N);have ag:c∣b:=T ▸ Nat.gcd_dvd_left b N;have ah:c∣N:=T ▸ Nat.gcd_dvd_right b N;obtain⟨k,J⟩:=ag;have ai:2≤k:=by
  rcases (by omega:k=0∨k=1∨2≤k) with e |e |e
  ·rw[e,Nat.mul_zero]at J;omega
  ·rw[e,Nat.mul_one]at J;exact absurd (J ▸ ah) af
  ·exact e
 obtain⟨r,I,ap⟩:=Qj1 k ai;obtain⟨e,U,e2⟩:=Qg8 I.1 b hb;obtain⟨f,V,f2⟩:=Qg8 I.1 N hN;have aj:f<e:=by
  rcases Nat.lt_or_ge f e with X |X
  ·exact X
  ·have h2:r ^ e∣c:=T ▸ Nat.dvd_gcd U (Nat.dvd_trans (Nat.pow_dvd_pow r X) V);obtain⟨c',rfl⟩:=h2;obtain⟨k',rfl⟩:=ap;have hp:0<r ^ e:=Nat.pow_pos (by have:=I.1;omega);refine absurd ?_ e2;rw[J,Nat.mul_assoc,Nat.mul_div_cancel_left _ hp];exact⟨c'*k',by ac_rfl⟩
 have hx:=hg.pow V;have am:b / r ^ e∣b:=Nat.div_dvd_of_dvd U;have hy:=hh.pow am;have hp:0<r ^ e:=Nat.pow_pos (by have:=I.1;omega);have an:b / (b / r ^ e)=r ^ e:=by
  obtain⟨t,rfl⟩:=U;have O:0<t:=Nat.pos_of_ne_zero fun Y=>by rw[Y]at hb;omega
  rw[Nat.mul_div_cancel_left _ hp,Nat.mul_div_cancel _ O]
 rw[an]at hy;refine⟨_,_,hx.mul hy (Nat.Coprime.pow_right e (I.coprime f2)),?_⟩;obtain⟨t,rfl⟩:=V;have ao:0<r ^ f:=Nat.pow_pos (by have:=I.1;omega);rw[Nat.mul_div_cancel_left _ ao];have O:0<t:=Nat.pos_of_ne_zero fun Y=>by rw[Y]at hN;omega
 rw[Nat.mul_comm];exact (Nat.mul_lt_mul_left O).2 (Nat.pow_lt_pow_right (by have:=I.1;omega) aj)
end cyc
structure Num (F:Type) [CField F] (q:Nat) where
 code:F→Nat
 el:Nat→F
 lt:∀x,code x<q
 inj:∀x y,code x=code y→x=y
 code_el:∀n,n<q→code (el n)=n
 zero:code 0=0
 two:2≤q
section num
variable {F:Type} [CField F] {q:Nat}
theorem Num.pos (h:Num F q){y:F} (I:y≠0):1≤h.code y:=by
 rcases Nat.eq_zero_or_pos (h.code y) with h0 |h0
 ·exact absurd (h.inj _ _ (h0.trans h.zero.symm)) I
 ·exact h0
theorem Qj2 {x:F} (I:x≠0){i k:Nat} (e:pw x i=pw x (i+k)):pw x k=1:=by
 rw[QcL]at e;exact (QbN (QcE I i) (by rw[Qax];exact e)).symm
theorem Num.pow_one (h:Num F q){x:F} (O:x≠0):∃n,1≤n∧pw x n=1:=by
 apply Classical.byContradiction;intro U;have J:∀i j,i≤j→pw x i=pw x j→i=j:=fun i j V e=>by
  obtain⟨k,rfl⟩:∃k,j=i+k:=⟨j - i,by omega⟩;have I:=Qj2 O e;rcases Nat.eq_zero_or_pos k with h0 |h0
  ·omega
  ·exact absurd ⟨k,h0,I⟩ U
 have T:∀i j,i<q+1→j<q+1→h.code (pw x i)=h.code (pw x j)→i=j:=by
  intro i j _ _ e;rcases Nat.le_total i j with I |I
  ·exact J i j I (h.inj _ _ e)
  ·exact (J j i I (h.inj _ _ e).symm).symm
 have:=Ql8 (q:=q) (fun i _=>h.lt (pw x i)) T;omega
theorem QcW.ne {x:F} {n:Nat} (I:QcW x n):x≠0:=fun e=>by
 have J:=I.2.1;rw[e,Qe5 I.1]at J;exact QbD J.symm
theorem QcW.inj {x:F} {n:Nat} (J:QcW x n){i j:Nat} (U:i<n)(O:j<n)(e:pw x i=pw x j):i=j:=by
 have T:∀i j,j<n→i≤j→pw x i=pw x j→i=j:=fun i j O V e=>by
  obtain⟨k,rfl⟩:∃k,j=i+k:=⟨j - i,by omega⟩;have:=J.2.2 _ (Qj2 J.ne e);rcases Nat.eq_zero_or_pos k with h0 |h0
  ·omega
  ·have:=Nat.le_of_dvd h0 this;omega
 rcases Nat.le_total i j with I |I
 ·exact T i j O I e
 ·exact (T j i U I e.symm).symm
theorem Num.ord_le (h:Num F q){x:F} {n:Nat} (I:QcW x n):n≤q - 1 :=
 Ql8 (f:=fun i=>h.code (pw x i) - 1) (fun i _=>by
   have J:=h.lt (pw x i);have O:=h.pos (QcE I.ne i)
   show h.code (pw x i) - 1<q - 1
   omega) (fun i j T U e=>by
   have J:=h.pos (QcE I.ne i);have O:=h.pos (QcE I.ne j);have V:h.code (pw x i) - 1=h.code (pw x j) - 1:=e;exact I.inj T U (h.inj _ _ (by omega)))
theorem Num.top_ord (h:Num F q):∃g:F,∃N,QcW g N∧∀x:F,∀n,QcW x n→n≤N:=by
 apply Classical.byContradiction;intro U;have O:∀k,∃g:F,∃N,QcW g N∧k≤N:=fun k=>by
  induction k with
  |zero=>exact⟨1,1,⟨Nat.le_refl _,Qdm 1,fun k _=>Nat.one_dvd k⟩,by omega⟩
  |succ k ih =>
   obtain⟨g,N,I,T⟩:=ih;apply Classical.byContradiction;intro V;refine U ⟨g,N,I,fun x n X=>?_⟩;rcases Nat.lt_or_ge N n with J |J
   ·exact absurd ⟨x,n,X,by omega⟩ V
   ·exact J
 obtain⟨g,N,I,T⟩:=O q;have:=h.ord_le I;have:=h.two;omega
theorem Num.gen (h:Num F q):∃u:F,(∀i j,i<q - 1→j<q - 1→pw u i=pw u j→i=j)∧pw u (q - 1)=1:=by
 obtain⟨g,N,J,ac⟩:=h.top_ord;have Y:∀x:F,x≠0→pw x N=1:=fun x hx=>by
  obtain⟨n,n1,n2⟩:=h.pow_one hx;obtain⟨b,-,V⟩:=QcW.exists n1 n2;have aa:b∣N:=Classical.byContradiction fun ah=>by
   obtain⟨y,m,hy,af⟩:=QoV J V ah;have:=ac y m hy;omega
  obtain⟨t,rfl⟩:=aa;rw[Qcp,V.2.1,Qdm]
 have ai:=h.ord_le J;have hN:=J.1;have U:q - 1≤N:=by
  rcases Nat.lt_or_ge N (q - 1) with af |U
  ·exfalso;have hz:=QeK (F:=F) (n:=N+1) (f:=fun i=>if i=N then 1 else if i=0 then -1 else 0) (a:=fun k=>h.el (k+1))
    (fun i j T X e=>by
     have e2:=congrArg h.code e;have I:=h.code_el (i+1) (by omega);have h2:=h.code_el (j+1) (by omega);have e3:h.code (h.el (i+1))=h.code (h.el (j+1)):=e2;omega)
    (fun k hk=>by
     have O:h.el (k+1)≠0:=fun e=>by
      have I:=h.code_el (k+1) (by omega);rw[e,h.zero]at I;omega
     show Qat (N+1) (fun i=>(if i=N then (1:F) else if i=0 then -1 else 0)*pw (h.el (k+1)) i)=0
     rw[Qaj,if_pos rfl,Qav,Y _ O];rw[Qak (k:=0) (by omega) fun i T O=>by rw[if_neg (by omega),if_neg O,Qah],if_neg (by omega),if_pos rfl,QbK,Qax,Qcu]) (i:=N) (by omega)
   have I:(if N=N then (1:F) else if N=0 then -1 else 0)=0:=hz;rw[if_pos rfl]at I;exact QbD I
  ·exact U
 obtain rfl:N=q - 1:=by omega
 exact⟨g,fun i j T X e=>J.inj T X e,J.2.1⟩
end num
section res
variable {D:Desc}
def QoW (D:Desc):Prop:=∀u:R D,u≠0→∃v:R D,u*v=1
open Classical in
theorem Qnf (h:QoW D):∃u:R D,Qdk u:=by
 let i:CField (R D):={
  inv:=fun u=>if hu:u≠0 then Classical.choose (h u hu) else 0
  mul_inv':=fun a I=>by
   show a*(if hu:a≠0 then Classical.choose (h a hu) else 0)=1
   rw[dif_pos I];exact Classical.choose_spec (h a I)
  inv_zero':=dif_neg fun h=>h rfl
  one_ne':=QgK }
 exact @Num.gen (R D) i D.q ⟨QaA,rel D,QaM,fun _ _=>Qbf,fun _=>QbA,QbJ,D.q2⟩
end res
end Cw
namespace Cw
theorem Qj3 (p c s:Nat){I low':Nat→Nat} (r:Nat→Nat):∀j,(∀i,i<j→I i=low' i)→dIn p c s I j r=dIn p c s low' j r
 |0,_=>rfl
 |j+1,h=>by
  show fup _ _ _=fup _ _ _
  rw[Qj3 p c s r j (fun i J=>h i (by omega)),h j (by omega)]
theorem Qim (p d m:Nat){I low':Nat→Nat} (r:Nat→Nat)(h:∀i,i<d→I i=low' i):∀t,Qik p d m I t r=Qik p d m low' t r
 |0=>rfl
 |t+1=>by
  show fup (dIn _ _ _ _ _ _) _ _=fup (dIn _ _ _ _ _ _) _ _
  rw[Qim p d m r h t,Qj3 p _ _ _ d h]
theorem QoX {p d m:Nat} {I low' J:Nat→Nat} (h:∀i,i<d→I i=low' i):dvB p d m I J=dvB p d m low' J:=by
 unfold dvB;rw[Qim p d m _ h]
theorem Qle (p c s:Nat)(I r:Nat→Nat):∀j i,s+j≤i∨i<s→dIn p c s I j r i=r i
 |0,_,_=>rfl
 |j+1,i,h=>by
  show (if i=s+j then _ else dIn p c s I j r i)=r i
  rw[if_neg (by omega),Qle p c s I r j i (by omega)]
section
variable {D:Desc}
theorem pwX {k:Nat} (h:k<D.m):pw (Xc D) k=Qet D k:=by
 induction k with
 |zero=>rfl
 |succ k ih =>
  rw[Qbi,ih (by omega),←QoF h];exact (Qvg _).symm
theorem QoY (s:Zp D.p){k i:Nat} (J:k<D.m)(I:i<D.m):(sc s*pw (Xc D) k).v i=if i=k then s else 0:=by
 rw[QcV _ _ I,pwX J,Qb6 I];by_cases h:i=k
 ·rw[if_pos h,if_pos h,Qax]
 ·rw[if_neg h,if_neg h,Qac]
theorem QsO {c s:Nat} (J:c≤D.p)(I r:Nat→Nat){n:Nat}:∀j,s+j≤n→ev D (dIn D.p c s I j r) n=ev D r n - sc (zp D.p c)*pw (Xc D) s*ev D I j
 |0,_=>by
  show ev D r n=ev D r n - _*Qat 0 _
  rw[QaG,Qac,Qa3]
 |j+1,h=>by
  show ev D (fup (dIn D.p c s I j r) (s+j) ((dIn D.p c s I j r (s+j)+(D.p - c)*I j) % D.p)) n=_
  rw[Qlb _ _ (by omega),QsO J I r j (by omega),Qd5,QaQ,QjW,Ql7,QoD J,QsH,QcL];rw[QbV,QbV,Qeq,QcD]
  congr 2
  rw[Qbb,Qbb]
  congr 1
  ac_rfl
theorem QsP (d:Nat)(aa:1≤d)(ab:d≤D.m)(I:Nat→Nat)(J:∀i,D.mod.getD i 0<D.p) :
  ∀t,t≤D.m+1 - d→∃Q:R D,ev D (mon D.m fun i=>D.mod.getD i 0) (D.m+1)=Q*(ev D I d+pw (Xc D) d)+ev D (Qik D.p d D.m I t (mon D.m fun i=>D.mod.getD i 0)) (D.m+1) ∧
   (∀i,i<D.m→D.m - d<i→Q.v i=0)∧(1≤t→Q.v (D.m - d)=1)∧(t=0→Q=0)∧(∀i,D.m - t<i→i≤D.m→Qik D.p d D.m I t (mon D.m fun i=>D.mod.getD i 0) i=0)
 |0,_=>⟨0,by show _=_+ev D _ _;rw[Qah,Qai];rfl,fun i _ _=>rfl,fun h=>by omega,fun _=>rfl,fun i T U=>by omega⟩
 |t+1,ht=>by
  obtain⟨Q,T,U,h3,ah,h4⟩:=QsP d aa ab I J t (by omega);have ac:=Qld (p:=D.p) (by have:=D.p2;omega) d D.m I (QoO (m:=D.m) D.p2 J) t;generalize X:Qik D.p d D.m I t (mon D.m fun i=>D.mod.getD i 0)=r at *;have hc:r (D.m - t)≤D.p:=Nat.le_of_lt (ac _);have ae:Qik D.p d D.m I (t+1) (mon D.m fun i=>D.mod.getD i 0)=fup (dIn D.p (r (D.m - t)) (D.m - t - d) I d r) (D.m - t) 0:=by
   rw[←X];rfl
  rw[ae];have af:dIn D.p (r (D.m - t)) (D.m - t - d) I d r (D.m - t)=r (D.m - t):=Qle _ _ _ _ _ _ _ (by omega);have O:D.m - t - d<D.m:=by omega
  refine⟨Q+sc (zp D.p (r (D.m - t)))*pw (Xc D) (D.m - t - d),?_,fun i V h=>?_,fun _=>?_,fun h=>by omega,fun i ak aj=>?_⟩
  ·rw[QsL _ _ (by omega),af,QsO hc I r d (by omega),Qes,Qg6,QcK,T];generalize sc (zp D.p (r (D.m - t)))=C;have e:pw (Xc D) (D.m - t)=pw (Xc D) (D.m - t - d)*pw (Xc D) d:=by rw[←QcL];congr 1;omega
   rw[e];generalize pw (Xc D) (D.m - t - d)=S;generalize pw (Xc D) d=Y;generalize ev D I d=L;generalize ev D r (D.m+1)=E;rw[Qbw,QaQ (C*S),Qbb,←Qa6,QbV];rw[show Q*(L+Y)+(C*S*L+C*S*Y)+(E+-(C*S*L)+-(C*S*Y))=Q*(L+Y)+E+(C*S*L+-(C*S*L))+(C*S*Y+-(C*S*Y)) by ac_rfl,QaU,QaU,Qad,Qad]
  ·rw[Qk8,U i V h,QoY _ O V,if_neg (by omega),Qai]
  ·rw[Qk8,QoY _ O (by omega)];by_cases h0:t=0
   ·subst h0;rw[if_pos (by omega),ah rfl,←X]
    show 0+zp D.p (if D.m<D.m then _ else 1)=1
    rw[if_neg (Nat.lt_irrefl _),Qai];rfl
   ·rw[h3 (by omega),if_neg (by omega),Qad]
  ·show (if i=D.m - t then 0 else dIn D.p (r (D.m - t)) (D.m - t - d) I d r i)=0
   by_cases e:i=D.m - t
   ·rw[if_pos e]
   ·rw[if_neg e,Qle _ _ _ _ _ _ _ (by omega)];exact h4 i (by omega) aj
theorem Qvl:ev D (mon D.m fun i=>D.mod.getD i 0) (D.m+1)=0:=by
 rw[Qd5,show mon D.m (fun i=>D.mod.getD i 0) D.m=1 from if_neg (Nat.lt_irrefl _),Ql6,QoH,Qav,QiX (f:=mon D.m fun i=>D.mod.getD i 0) (h:=fun i=>D.mod.getD i 0) (fun i I=>if_pos I),QdV];exact QsI
theorem Qgr {f:Nat→Nat} {k:Nat}:∀n,k≤n→(∀i,k≤i→i<n→f i=0)→ev D f n=ev D f k
 |0,hk,_=>by rw[show k=0 by omega]
 |n+1,hk,h=>by
  by_cases e:k=n+1
  ·rw[e]
  ·rw[Qd5,h n (by omega) (by omega),Qes,Qg6,Qah,Qad];exact Qgr n (by omega) fun i I J=>h i I (by omega)
theorem Qma (d:Nat)(V:1≤d)(X:d≤D.m)(I:Nat→Nat)(J:∀i,D.mod.getD i 0<D.p) :
  ∃Q:R D,∃r:Nat→Nat,(∀i,r i<D.p)∧0=Q*(ev D I d+pw (Xc D) d)+ev D r d∧(∀i,i<D.m→D.m - d<i→Q.v i=0)∧Q.v (D.m - d)=1 ∧
   (dvB D.p d D.m I (fun i=>D.mod.getD i 0)=true↔∀k,k<d→r k=0):=by
 obtain⟨Q,T,h2,h3,-,h4⟩:=QsP d V X I J (D.m+1 - d) ρ;have Y:=Qld (p:=D.p) (by have:=D.p2;omega) d D.m I (QoO (m:=D.m) D.p2 J) (D.m+1 - d);have aa:dvB D.p d D.m I (fun i=>D.mod.getD i 0)=decide (∀k,k<D.m+1→Qik D.p d D.m I (D.m+1 - d) (mon D.m fun i=>D.mod.getD i 0) k=0):=rfl;rw[Qvl]at T;generalize Qik D.p d D.m I (D.m+1 - d) (mon D.m fun i=>D.mod.getD i 0)=r at *;have O:∀i,d≤i→i<D.m+1→r i=0:=fun i a b=>h4 i (by omega) (by omega)
 refine⟨Q,r,Y,?_,h2,h3 (by omega),?_⟩
 ·rw[T,Qgr (D.m+1) (by omega) O]
 ·rw[aa,decide_eq_true_iff];constructor
  ·intro h k U;exact h k (by omega)
  ·intro h k U;by_cases e:k<d
   ·exact h k e
   ·exact O k (by omega) U
theorem Qwy {f:Nat→Nat} {n:Nat} (T:n≤D.m){i:Nat} (I:i<D.m):(ev D f n).v i=if i<n then zp D.p (f i) else 0:=by
 unfold ev;rw[QoG];by_cases h:i<n
 ·rw[if_pos h,Qak (k:=i) h fun j J O=>by rw[QoY _ (by omega) I,if_neg (fun e=>O e.symm)],QoY _ I I,if_pos rfl]
 ·rw[if_neg h];exact Qag fun j J=>by rw[QoY _ (by omega) I,if_neg (by omega)]
def ZD (u:R D):Prop:=u≠0∧∃v:R D,v≠0∧u*v=0
def QsQ (u:R D)(d:Nat):Prop:=d<D.m∧u.v d≠0∧∀i,i<D.m→d<i→u.v i=0
theorem QsR (u:R D)(J:u≠0):∃d,QsQ u d:=by
 apply Classical.byContradiction;intro T;have O:∀k,k≤D.m→∀i,i<D.m→D.m - k≤i→u.v i=0:=fun k=>by
  induction k with
  |zero=>intro _ i I U;omega
  |succ k ih =>
   intro hk i I U;by_cases e:i=D.m - (k+1)
   ·apply Classical.byContradiction;intro V;exact T ⟨i,I,V,fun j X h4=>ih (by omega) j X (by omega)⟩
   ·exact ih (by omega) i I (by omega)
 exact J (R.ext' fun i Y=>O D.m ρ i Y (by omega))
theorem QsS (a:Zp D.p)(U:a≠0):∃b:Zp D.p,a*b=1:=by
 have hp:=D.hp;have V:a.val≠0:=fun e=>U (Zp.ext (by rw[e,Zp.zero_val]))
 have X:¬ D.p∣a.val:=fun h=>by have:=Nat.le_of_dvd (Nat.pos_of_ne_zero V) h;have:=a.lt;omega
 have Y:=hp.coprime X;have ad:=D.p2;obtain⟨i,I,e⟩:=Qlc (f:=fun i=>a.val*i % D.p) (q:=D.p) (fun i _=>Nat.mod_lt _ (by omega)) (fun i j I J e=>by
  have O:∀i j,i<D.p→j<D.p→i≤j→a.val*i % D.p=a.val*j % D.p→i=j:=fun i j I J ae e=>by
   obtain⟨k,rfl⟩:∃k,j=i+k:=⟨j - i,by omega⟩;have h1:D.p∣a.val*k:=by
    have T:=Nat.sub_mod_eq_zero_of_mod_eq e.symm;rw[Nat.mul_add,Nat.add_sub_cancel_left]at T;exact Nat.dvd_of_mod_eq_zero T
   have h3:=Y.symm.dvd_of_dvd_mul_left h1;rcases Nat.eq_zero_or_pos k with h0 |h0
   ·omega
   ·have:=Nat.le_of_dvd h0 h3;omega
  rcases Nat.le_total i j with h |h
  ·exact O i j I J h e
  ·exact (O j i J I h e.symm).symm) (x:=1) (by omega)
 refine⟨zp D.p i,Zp.ext ?_⟩;rw[Zp.mul_val,Qdq,Nat.mul_mod_mod];have e2:a.val*i % D.p=1:=e;rw[e2]
 show 1=1 % D.p
 rw[Nat.mod_eq_of_lt (by omega)]
theorem QtI {s:Zp D.p} (h:s≠0):∃b:R D,sc s*b=1:=by
 obtain⟨b,I⟩:=QsS s h;exact⟨sc b,by rw[←Ql7,I,QoH]⟩
theorem ZD.not_unit {u:R D} (h:ZD u){b:R D} (I:u*b=1):False:=by
 obtain⟨-,v,J,e⟩:=h;apply J;rw[←Qav v,←I,Qb3 u b,Qa6,e,Qac]
theorem ZD.mul_unit {u a b:R D} (h:ZD u)(I:a*b=1):ZD (a*u):=by
 obtain⟨J,v,O,e⟩:=h;refine⟨fun h0=>J ?_,v,O,by rw[Qa6,e,Qac]⟩;rw[←Qav u,←I,Qb3 a b,Qa6,h0,Qac]
theorem Qlf (h:∀u:R D,¬ ZD u):QoW D:=fun u U=>by
 obtain⟨i,I,e⟩:=Qlc (f:=fun i=>QaA (u*rel D i)) (q:=D.q) (fun i _=>QaM _) (fun i j I V e=>by
  have J:u*rel D i=u*rel D j:=Qbf e;have O:u*(rel D i - rel D j)=0:=by rw[QiP,J,QaV]
  apply Classical.byContradiction;intro T;refine h u ⟨U,_,fun h0=>T ?_,O⟩;rw[←QbA I,←QbA V,Qbg h0]) (x:=QaA (1:R D)) (QaM _)
 exact⟨_,Qbf e⟩
theorem QtJ {f:Nat→Nat} {d:Nat} (I:∀i,i<d→f i<D.p):Qds D.p f d<D.p ^ d∧∀i,i<d→Qds D.p f d / D.p ^ i % D.p=f i :=
 ⟨Qf2 I,fun i J=>Qf3 (by have:=D.p2;omega) I J⟩
theorem QiZ (ak:∀i,D.mod.getD i 0<D.p)(h:D.m=1∨∀d,1≤d→2*d≤D.m→∀v,v<D.p ^ d→dvB D.p d D.m (fun i=>v / D.p ^ i % D.p) (fun i=>D.mod.getD i 0)=false):QoW D:=by
 refine Qlf fun u0 aj=>?_
 -- one of the least degree
 have al:∀d,∀u:R D,ZD u→QsQ u d→False:=fun d=>by
  induction d using Nat.strongRecOn with
  |ind d ih =>
   intro u hu T;obtain⟨b,V⟩:=QsS _ T.2.1;have am:b≠0:=fun e=>by
    rw[e,Qac]at V;have I:=congrArg Zp.val V;rw[Zp.zero_val]at I;have J:(1:Zp D.p).val=1 % D.p:=rfl;rw[J,Nat.mod_eq_of_lt (by have:=D.p2;omega)]at I
    cases I
   obtain⟨b',av⟩:=QtI (D:=D) am;have U:=hu.mul_unit av;obtain⟨w,X⟩:=ε (sc b*u);rw[←X]at U;have ae:w.v d=1:=by rw[X,QcV _ _ T.1,Qb3,V]
   have af:∀i,i<D.m→d<i→w.v i=0:=fun i I J=>by rw[X,QcV _ _ I,T.2.2 i I J,Qac]
   have an:=T.1;rcases Nat.eq_zero_or_pos d with h0 |h0
   ·subst h0;have:w=1:=R.ext' fun i O=>by
     rw[Qk9 O];by_cases e:i=0
     ·rw[e,if_pos rfl,ae]
     ·rw[if_neg e,af i O (by omega)]
    exact U.not_unit (b:=1) (by rw[this,Qax])
   ·have ao:ev D (di w) d+pw (Xc D) d=w:=R.ext' fun i O=>by
     rw[Qk8,Qwy (by omega) O,pwX an,Qb6 O];by_cases e1:i<d
     ·rw[if_pos e1,if_neg (by omega),Qad,Qvh]
     ·by_cases e2:i=d
      ·rw[if_neg e1,if_pos e2,Qai,e2,ae]
      ·rw[if_neg e1,if_neg e2,Qai,af i O (by omega)]
    obtain⟨Q,r,hr,hz,ax,Y,ay⟩:=Qma d h0 (by omega) (di w) ak;rw[ao]at hz;obtain⟨az,v,hv,aB⟩:=U;have ag:ev D r d=0:=by
     apply Classical.byContradiction;intro ai;obtain⟨d',ab⟩:=QsR _ ai;have ap:d'<d:=by
      rcases Nat.lt_or_ge d' d with I |I
      ·exact I
      ·exact absurd (by rw[Qwy (by omega) ab.1,if_neg (by omega)]) ab.2.1
     refine ih d' ap (ev D r d) ⟨ai,v,hv,?_⟩ ab;have e:ev D r d=-(Q*w):=QbM hz.symm;rw[e,Qbb,Qa6,aB,Qac,QcT]
    have aq:∀k,k<d→r k=0:=fun k hk=>by
     have I:(ev D r d).v k=0:=by rw[ag];rfl
     rw[Qwy (by omega) (by omega),if_pos hk]at I;have J:=congrArg Zp.val I;rw[Qdq,Zp.zero_val,Nat.mod_eq_of_lt (hr k)]at J;exact J
    have ar:=ay.2 aq;rcases h with hm |aF
    ·omega
    ·by_cases aH:2*d≤D.m
     ·obtain⟨n1,n2⟩:=QtJ (D:=D) (f:=di w) (d:=d) (fun i _=>Qd3 w i);have h3:=aF d h0 aH _ n1;rw[QoX (low':=di w) n2,ar]at h3
      cases h3
     ·have au:Q*w=0:=by rw[ag,Qad]at hz;exact hz.symm
      refine ih (D.m - d) (by omega) Q ⟨fun e=>?_,w,az,au⟩ ⟨by omega,?_,ax⟩
      ·rw[e]at Y;have I:=congrArg Zp.val Y;rw[show (0:R D).v (D.m - d)=0 from rfl,Zp.zero_val]at I;have J:(1:Zp D.p).val=1 % D.p:=rfl;rw[J,Nat.mod_eq_of_lt (by have:=D.p2;omega)]at I
       cases I
      ·rw[Y];intro e;have I:=congrArg Zp.val e;have J:(1:Zp D.p).val=1 % D.p:=rfl;rw[J,Zp.zero_val,Nat.mod_eq_of_lt (by have:=D.p2;omega)]at I
       cases I
 obtain⟨d,hd⟩:=QsR u0 aj.1;exact al d u0 aj hd
theorem Qng (I:∀i,D.mod.getD i 0<D.p)(h:D.m=1∨∀d,1≤d→2*d≤D.m→∀v,v<D.p ^ d→dvB D.p d D.m (fun i=>v / D.p ^ i % D.p) (fun i=>D.mod.getD i 0)=false):∃u:R D,Qdk u :=
 Qnf (QiZ I h)
theorem Qnh (X:∀i,D.mod.getD i 0<D.p){u:R D} (h:Qdk u){d v:Nat} (I:1≤d)(J:2*d≤D.m):dvB D.p d D.m (fun i=>v / D.p ^ i % D.p) (fun i=>D.mod.getD i 0)=false:=by
 apply Classical.byContradiction;intro V;rw[Bool.not_eq_false]at V;obtain⟨Q,r,-,hz,-,U,ab⟩:=Qma d I (by omega) (fun i=>v / D.p ^ i % D.p) X;have Y:=ab.1 V;have aa:ev D r d=0:=by
  rw[QiX (h:=fun _=>0) Y,QoL]
 rw[aa,Qad]at hz;have O:¬ (1:Zp D.p)=0:=fun e=>by
  have I:=congrArg Zp.val e;have J:(1:Zp D.p).val=1 % D.p:=rfl;rw[J,Zp.zero_val,Nat.mod_eq_of_lt (by have:=D.p2;omega)]at I
  cases I
 rcases Qbx (F:=R (Qvk D u h).z) hz.symm with e |e
 ·rw[e]at U;exact O U.symm
 ·have T:(ev D (fun i=>v / D.p ^ i % D.p) d+pw (Xc D) d).v d=0:=by rw[e];rfl
  rw[Qk8,Qwy (by omega) (by omega),if_neg (Nat.lt_irrefl _),pwX (by omega),Qb6 (by omega),if_pos rfl,Qai]at T;exact O T
end
end Cw
namespace Cw
section lag
variable {F:Type} [CField F]
open CField (inv)
def xm (a:F)(f:Nat→F):Nat→F:=fun t=>(if t=0 then 0 else f (t - 1)) - a*f t
theorem Qvm (a x:F)(f:Nat→F)(N:Nat)(h:f N=0):Qat (N+1) (fun t=>xm a f t*pw x t)=(x - a)*Qat N (fun t=>f t*pw x t):=by
 have I:Qat (N+1) (fun t=>xm a f t*pw x t)=Qat (N+1) (fun t=>(if t=0 then 0 else f (t - 1))*pw x t) - Qat (N+1) (fun t=>a*(f t*pw x t)):=by
  rw[←QdX];exact Qaa fun t _=>by unfold xm;rw[QdW,Qa6]
 rw[I,Qal,QaE,if_pos rfl,Qah,Qai,Qaj,h,Qah,Qad,QdW]
 congr 1
 rw[←Qal];refine Qaa fun t _=>?_
 show (if t+1=0 then 0 else f (t+1 - 1))*pw x (t+1)=x*(f t*pw x t)
 rw[if_neg (by omega),show t+1 - 1=t by omega,Qbi];ac_rfl
def lcf (a:Nat→F)(i:Nat):Nat→Nat→F
 |0=>fun t=>if t=0 then 1 else 0
 |k+1=>if k=i then lcf a i k else xm (a k) (lcf a i k)
def Qi0 (i k:Nat):Nat:=if i<k then k - 1 else k
def Qel (a:Nat→F)(i:Nat)(x:F):Nat→F
 |0=>1
 |k+1=>if k=i then Qel a i x k else Qel a i x k*(x - a k)
theorem Qi1 (a:Nat→F)(i:Nat):lcf a i (i+1)=lcf a i i:=if_pos rfl
theorem Qfz (a:Nat→F){i k:Nat} (h:k≠i):lcf a i (k+1)=xm (a k) (lcf a i k):=if_neg h
theorem Qg9 (a:Nat→F)(i:Nat)(x:F):Qel a i x (i+1)=Qel a i x i:=if_pos rfl
theorem QdG (a:Nat→F){i k:Nat} (x:F)(h:k≠i):Qel a i x (k+1)=Qel a i x k*(x - a k):=if_neg h
theorem Qha (i:Nat):Qi0 i (i+1)=Qi0 i i:=by unfold Qi0;rw[if_pos (by omega),if_neg (by omega)];omega
theorem Qf5 {i k:Nat} (h:k≠i):Qi0 i (k+1)=Qi0 i k+1:=by
 unfold Qi0;by_cases I:i<k
 ·rw[if_pos (by omega),if_pos I];omega
 ·rw[if_neg (by omega),if_neg I]
theorem Qd6 (a:Nat→F)(i:Nat):∀k t,Qi0 i k<t→lcf a i k t=0
 |0,t,h=>by
  unfold Qi0 at h;rw[if_neg (by omega)]at h;exact if_neg (by omega)
 |k+1,t,h=>by
  by_cases e:k=i
  ·subst e;rw[Qi1];rw[Qha]at h;exact Qd6 a k k t h
  ·rw[Qfz a e];rw[Qf5 e]at h;unfold xm;rw[if_neg (by omega),Qd6 a i k (t - 1) (by omega),Qd6 a i k t (by omega),Qac,Qa3]
theorem Qf6 (a:Nat→F)(i:Nat):∀k,lcf a i k (Qi0 i k)=1
 |0=>by
  unfold Qi0;rw[if_neg (by omega)]
  show (if (0:Nat)=0 then (1:F) else 0)=1
  rw[if_pos rfl]
 |k+1=>by
  by_cases e:k=i
  ·subst e;rw[Qi1,Qha];exact Qf6 a k k
  ·rw[Qfz a e,Qf5 e];unfold xm;rw[if_neg (by omega),show Qi0 i k+1 - 1=Qi0 i k by omega,Qf6 a i k,Qd6 a i k _ (by omega),Qac,Qa3]
theorem Qhb (a:Nat→F)(i:Nat)(x:F):∀k N,Qi0 i k<N→Qat N (fun t=>lcf a i k t*pw x t)=Qel a i x k
 |0,N,h=>by
  rw[Qak (k:=0) (by omega) (fun t _ J=>by rw[show lcf a i 0 t=0 from if_neg J,Qah])]
  show (if (0:Nat)=0 then (1:F) else 0)*pw x 0=1
  rw[if_pos rfl,QbK,Qax]
 |k+1,N,h=>by
  by_cases e:k=i
  ·subst e;rw[Qi1,Qg9];rw[Qha]at h;exact Qhb a k x k N h
  ·rw[Qfz a e,QdG a x e];rw[Qf5 e]at h;obtain⟨I,rfl⟩:∃I,N=I+1:=⟨N - 1,by omega⟩;rw[Qvm _ _ _ _ (Qd6 a i k I (by omega)),Qhb a i x k I (by omega),Qb3]
theorem QfA (a:Nat→F){i j:Nat} (I:j≠i):∀k,j<k→Qel a i (a j) k=0
 |0,h=>absurd h (by omega)
 |k+1,h=>by
  by_cases e:k=i
  ·subst e;rw[Qg9];exact QfA a I k (by omega)
  ·rw[QdG a _ e];by_cases J:j=k
   ·subst J;rw[QaV,Qac]
   ·rw[QfA a I k (by omega),Qah]
theorem Qi2 (a:Nat→F){n i:Nat} (I:∀i j,i<n→j<n→a i=a j→i=j)(J:i<n):∀k,k≤n→Qel a i (a i) k≠0
 |0,_=>QbD
 |k+1,hk=>by
  by_cases e:k=i
  ·subst e;rw[Qg9];exact Qi2 a I J k (by omega)
  ·rw[QdG a _ e];exact QaS (Qi2 a I J k (by omega)) fun h=>e (I i k J (by omega) (Qbg h)).symm
theorem QoZ {n:Nat} (hn:1≤n)(a:Nat→F)(O:∀i j,i<n→j<n→a i=a j→i=j)(h:Nat→F) :
  Qat n (fun i=>Qat n (fun t=>h t*pw (a i) t)*inv (Qel a i (a i) n))=h (n - 1):=by
 have T:∀t,t<n→Qat n (fun i=>Qat n (fun s=>h s*pw (a i) s)*inv (Qel a i (a i) n)*lcf a i n t) - h t=0:=by
  intro t Y;refine QeK (f:=fun t=>Qat n (fun i=>Qat n (fun s=>h s*pw (a i) s)*inv (Qel a i (a i) n)*lcf a i n t) - h t) O (fun k J=>?_) Y;have U:∀t,(Qat n (fun i=>Qat n (fun s=>h s*pw (a i) s)*inv (Qel a i (a i) n)*lcf a i n t) - h t)*pw (a k) t =
    Qat n (fun i=>Qat n (fun s=>h s*pw (a i) s)*inv (Qel a i (a i) n)*(lcf a i n t*pw (a k) t)) - h t*pw (a k) t:=fun t=>by
   rw[QdW,←Qar]
   congr 1
   exact Qaa fun i _=>by rw[Qa6]
  simp only[U];rw[QdX,QaX];have V:∀i,i<n→Qat n (fun t=>Qat n (fun s=>h s*pw (a i) s)*inv (Qel a i (a i) n)*(lcf a i n t*pw (a k) t))=Qat n (fun s=>h s*pw (a i) s)*inv (Qel a i (a i) n)*Qel a i (a k) n:=fun i I=>by
   rw[Qal,Qhb a i (a k) n n (by unfold Qi0;rw[if_pos I];omega)]
  rw[Qaa V,Qak J (fun i I aa=>by rw[QfA a (fun e=>aa e.symm) n J,Qac]),Qa6,QbH (Qi2 a O J n ρ),Qax,QaV]
 have X:=Qbg (T (n - 1) (by omega));rw[←X];exact Qaa fun i I=>by
  rw[show n - 1=Qi0 i n by unfold Qi0;rw[if_pos I],Qf6,Qax]
theorem Qo0 {n k:Nat} (O:k+1<n)(a:Nat→F)(I:∀i j,i<n→j<n→a i=a j→i=j):Qat n (fun i=>pw (a i) k*inv (Qel a i (a i) n))=0:=by
 have h:=QoZ (by omega) a I (fun t=>if t=k then 1 else 0);rw[if_neg (by omega)]at h;rw[←h];exact Qaa fun i _=>by
  rw[Qak (k:=k) (by omega) (fun t _ J=>by rw[if_neg J,Qah]),if_pos rfl,Qav]
end lag
end Cw
namespace Cw
def QeY (f:Nat→Int):Nat→Nat
 |0=>0
 |n+1=>if f n=0 then QeY f n else n+1
theorem QbY (f:Nat→Int):∀n,QeY f n≤n
 |0=>Nat.le_refl _
 |n+1=>by
  show (if f n=0 then QeY f n else n+1)≤n+1
  have:=QbY f n
  split <;> omega
theorem Qhc (f:Nat→Int){i:Nat}:∀n,QeY f n≤i→i<n→f i=0
 |0,_,h=>absurd h (by omega)
 |n+1,h,hi=>by
  by_cases e:f n=0
  ·rw[show QeY f (n+1)=QeY f n from if_pos e]at h;by_cases I:i=n
   ·rw[I];exact e
   ·exact Qhc f n h (by omega)
  ·rw[show QeY f (n+1)=n+1 from if_neg e]at h;omega
theorem Qi3 {f:Nat→Int} {n:Nat} (h:f n=0):QeY f (n+1)=QeY f n:=if_pos h
theorem Qi4 {f:Nat→Int} {n:Nat} (h:f n≠0):QeY f (n+1)=n+1:=if_neg h
theorem Qj4 {f:Nat→Int} {n:Nat}:∀m,n≤m→(∀i,n≤i→i<m→f i=0)→QeY f m=QeY f n
 |0,h,_=>by rw[show n=0 by omega]
 |m+1,h,hz=>by
  by_cases e:n=m+1
  ·rw[e]
  ·rw[Qi3 (hz m (by omega) (by omega))];exact Qj4 m (by omega) fun i I J=>hz i I (by omega)
theorem Qin {f g:Nat→Int}:∀n,(∀i,i<n→f i=g i)→QeY f n=QeY g n
 |0,_=>rfl
 |n+1,h=>by
  show (if f n=0 then QeY f n else n+1)=if g n=0 then QeY g n else n+1
  rw[h n (by omega),Qin n fun i I=>h i (by omega)]
def Qep (f:Nat→Int)(n:Nat):List Int:=lst (QeY f n) f
theorem QaH (f:Nat→Int)(n:Nat):(Qep f n).length=QeY f n:=Qab _ _
theorem Qq2 (f:Nat→Int){n i:Nat} (h:i<n):(Qep f n)[i]?.getD 0=f i:=by
 by_cases e:i<QeY f n
 ·exact Qas f e
 ·rw[Qhc f n (by omega) h,List.getElem?_eq_none (by rw[QaH];omega)];rfl
theorem Qq3 (f:Nat→Int){n i:Nat} (h:n≤i):(Qep f n)[i]?.getD 0=0:=by
 rw[List.getElem?_eq_none (by rw[QaH];have:=QbY f n;omega)];rfl
theorem Qey {f:Nat→Int} {n m:Nat} (h:n≤m)(hz:∀i,n≤i→i<m→f i=0):Qep f m=Qep f n:=by
 unfold Qep;rw[Qj4 m h hz]
theorem QeL {f g:Nat→Int} {n:Nat} (h:∀i,i<n→f i=g i):Qep f n=Qep g n:=by
 unfold Qep;rw[Qin n h];exact Qay fun i I=>h i (by have:=QbY g n;omega)
theorem QfB {f:Nat→Int} {n:Nat} (h:f n≠0):Qep f (n+1)=lst (n+1) f:=by
 unfold Qep;rw[Qi4 h]
section
variable {R:Type} [CRing R]
def conv (f g:Nat→R):Nat→R:=fun t=>Qat (t+1) fun s=>f s*g (t - s)
def Qb7 (f g:Nat→R)(i j:Nat):Nat→R:=fun t=>Qat i (fun s=>if s≤t then f s*g (t - s) else 0)+if i≤t∧t<i+j then f i*g (t - i) else 0
theorem Qio (f g:Nat→R)(t:Nat):Qb7 f g 0 0 t=0:=by
 unfold Qb7;rw[if_neg (by omega),QaG,Qad]
theorem Qip (f g:Nat→R)(i j:Nat):Qb7 f g i (j+1) (i+j)=Qb7 f g i j (i+j)+f i*g j:=by
 unfold Qb7;rw[if_pos (by omega),if_neg (by omega),Qad,Nat.add_sub_cancel_left]
theorem Qhd (f g:Nat→R){i j t:Nat} (h:t≠i+j):Qb7 f g i (j+1) t=Qb7 f g i j t:=by
 unfold Qb7
 congr 1
 by_cases e:i≤t∧t<i+j
 ·rw[if_pos e,if_pos (by omega)]
 ·rw[if_neg e,if_neg (by omega)]
theorem Qj5 (f g:Nat→R){i N:Nat} (I:∀t,N≤t→g t=0)(t:Nat):Qb7 f g i N t=Qb7 f g (i+1) 0 t:=by
 unfold Qb7;rw[Qaj,if_neg (show ¬ (i+1≤t∧t<i+1+0) by omega),Qad]
 congr 1
 by_cases e:i≤t
 ·rw[if_pos e];by_cases J:t<i+N
  ·rw[if_pos ⟨e,J⟩]
  ·rw[if_neg (by omega),I _ (by omega),Qac]
 ·rw[if_neg e,if_neg (by omega)]
theorem QeM (f g:Nat→R){M:Nat} (I:∀t,M≤t→f t=0)(t:Nat):Qb7 f g M 0 t=conv f g t:=by
 unfold Qb7 conv
 rw[if_neg (by omega),Qad];rcases Nat.lt_or_ge t M with h |h
 ·obtain⟨d,rfl⟩:∃d,M=(t+1)+d:=⟨M - (t+1),by omega⟩;rw[Qco,Qag (n:=d) (fun s _=>if_neg (by omega)),Qad];exact Qaa fun s O=>if_pos (by omega)
 ·obtain⟨d,J⟩:∃d,t+1=M+d:=⟨t+1 - M,by omega⟩;rw[J,Qco,Qag (n:=d) (fun s _=>by rw[I _ (by omega),Qah]),Qad];exact Qaa fun s O=>if_pos (by omega)
theorem Qb8 {f g:Nat→R} {M N:Nat} (I:∀t,M≤t→f t=0)(J:∀t,N≤t→g t=0){t:Nat} (h:M+N≤t+1):conv f g t=0 :=
 Qag fun s _=>by
  by_cases e:M≤s
  ·rw[I s e,Qah]
  ·rw[J (t - s) (by omega),Qac]
end
section
variable {F:Type} [CField F]
theorem QtK (f g:Nat→F)(a:F)(h0:g 0=-a)(I:g 1=1)(J:∀s,2≤s→g s=0)(t:Nat):conv f g t=xm a f t:=by
 unfold conv xm
 rcases Nat.eq_zero_or_pos t with h |h
 ·subst h;rw[Qaj,QaG,Nat.sub_zero,if_pos rfl,h0,Qe3,Qb3,QcK,Qai]
 ·obtain⟨k,rfl⟩:∃k,t=k+1:=⟨t - 1,by omega⟩;rw[Qaj,Qaj,Qag (n:=k) (fun s O=>by rw[J _ (by omega),Qac]),Qai,Nat.sub_self,h0,show k+1 - k=1 by omega,I,if_neg (by omega),Qax,Qe3,Qb3 (f (k+1)),QbV];rfl
end
end Cw
