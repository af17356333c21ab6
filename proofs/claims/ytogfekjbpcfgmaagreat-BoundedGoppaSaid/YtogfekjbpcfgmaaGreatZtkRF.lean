/- The reference's arithmetic of digits: prime, digits, Value, Order. -/
import Derived.Deep.RegionHeld3
import Derived.StillTailTactics
import Derived.Test.YtogfekjbpcfgmaaGreatZtkP1
import Derived.Test.YtogfekjbpcfgmaaGreatZtkAppZ
set_option maxRecDepth 100000
set_option maxHeartbeats 16000000
set_option linter.unusedVariables false
namespace Go.Proofs
open Go.RowKit Cw
section
def dgi (p x i:Nat):Int:=((x / p ^ i % p:Nat):Int)
theorem Qiq (x p n:Nat)(w:World)(hp:1≤p)(X:p≤256)(Y:n≤8)(T:x≤65536) :
  Calls Tryz.prog 173 #[.int .i64 x,.int .i64 p,.int .i64 n] w (Qcj w.heap.size (lst n (dgi p x)) w):=by
 have aa:=QaC n (by omega);go_enter Tryz.func173,Tryz.ntmps173;go_wp2;go_loopw [0,8] (fun y i wr=>∃k z:Nat,k≤n∧z≤65536∧i=.int .i64 k∧y=.int .i64 z∧Hid (z=x / p ^ k)∧IB wr w.heap.size (upd n k (dgi p x))∧Below w.heap.size w wr) (fun _ i _=>n - (intOf i).toNat)
 case atStart=>exact⟨0,x,by omega,T,rfl,rfl,by simp[Hid],by rw[QaP];exact IB.newz _ _,β⟩
 case round =>
  obtain⟨k,z,hk,hz,rfl,rfl,J,I,O⟩:=hrel;by_cases V:k<n
  ·have hc:=I.cell (i:=k) (by rw[Qaz];exact V);have hf:=I.frozen k;have U:=η (I.set_ k (dgi p x k));clear I;have ad:(0:Int)≤(z:Int) / (p:Int):=Int.ediv_nonneg (by omega) (by omega);have ae:(z:Int) / (p:Int)≤65536:=Int.le_trans (Int.ediv_le_self _ (by omega)) (by omega);go_wp2;go_roundw
   case rel =>
    refine⟨k+1,z / p,by omega,τ (Nat.div_le_self _ _) hz,by go_num,by go_num,?_,?_,O.setCell ρ _⟩
    ·show z / p=x / p ^ (k+1)
     rw[J.out,Nat.pow_succ,Nat.div_div_eq_div_mul]
    ·have h:=U.out;rw[QaY]at h;have e:dgi p x k=(z:Int) % (p:Int):=by rw[J.out];rfl
     rw[e]at h;exact h
   case measure=>simp[intOf];omega
  ·go_wp2;go_ret;obtain rfl:k=n:=by omega
   rw[QaR]at I;exact⟨w.heap.size,by simp[Qab],Nat.le_refl _,I,O⟩
def hval (p:Nat)(f:Nat→Nat)(m:Nat):Nat→Nat
 |0=>0
 |j+1=>hval p f m j*p+f (m - 1 - j)
theorem Qj7 (p:Nat)(f:Nat→Nat)(m:Nat):∀j,j≤m→Qds p f m=Qds p f (m - j)+hval p f m j*p ^ (m - j)
 |0,_=>by simp[hval]
 |j+1,h=>by
  rw[Qj7 p f m j (by omega)];obtain⟨k,O⟩:∃k,m - j=k+1:=⟨m - j - 1,by omega⟩;have I:m - (j+1)=k:=by omega
  have J:m - 1 - j=k:=by omega
  rw[O,I]
  show Qds p f k+f k*p ^ k+hval p f m j*p ^ (k+1)=Qds p f k+(hval p f m j*p+f (m - 1 - j))*p ^ k
  rw[J,Nat.add_mul,Nat.pow_succ];have:hval p f m j*(p ^ k*p)=hval p f m j*p*p ^ k:=by ac_rfl
  omega
theorem Qj8 (p:Nat)(f:Nat→Nat)(m:Nat):hval p f m m=Qds p f m:=by
 have h:=Qj7 p f m m ρ;rw[Nat.sub_self,Nat.pow_zero,Nat.mul_one]at h;rw[h];exact (Nat.zero_add _).symm
theorem Qo7 {p:Nat} {f:Nat→Nat} {m:Nat} (h:∀i,i<m→f i<p):∀j,j≤m→hval p f m j<p ^ j
 |0,_=>Nat.one_pos
 |j+1,hj=>by
  have I:=Qo7 h j (by omega);have J:=Nat.mul_le_mul_right p (Nat.succ_le_of_lt I);rw[Nat.succ_mul]at J;have O:=h (m - 1 - j) (by omega)
  show hval p f m j*p+f (m - 1 - j)<p ^ (j+1)
  rw[Nat.pow_succ];omega
theorem Qo8 {p:Nat} {f:Nat→Nat} {m:Nat} (h:∀i,i<m→f i<p)(O:p ^ m≤256){j:Nat} (I:j≤m):hval p f m j≤256:=by
 rcases Nat.eq_zero_or_pos p with h0 |h0
 ·rcases Nat.eq_zero_or_pos j with J |J
  ·subst J;simp[hval]
  ·have:=h 0 (by omega);omega
 ·exact τ (Nat.le_of_lt (Qo7 h j I)) (τ (Nat.pow_le_pow_right h0 I) O)
theorem Qhf (p m:Nat)(f:Nat→Nat)(M:Int)(Y A:Option Addr)(n' c' c:Nat)(w:World)(hp:1≤p)(aa:p≤256)(hm:m≤8)(O:∀i,i<m→f i<p)(hq:p ^ m≤256)
  (T:Rd w w.heap.size A (lst m fun i=>(f i:Int))) :
  Calls Tryz.prog 121 #[.agg #[.int .i64 p,.int .i64 M,.slice Y n' c'],.slice A m c] w fun e w'=>e=.returned (.int .i64 (Qds p f m:Nat))∧Below w.heap.size w w':=by
 go_enter Tryz.func121,Tryz.ntmps121;go_wp2;go_loopw [5,6] (fun x i wr=>∃t j y:Nat,t≤m∧y≤256∧i=.int .i64 ((t:Int) - 1)∧x=.int .i64 y∧Hid (t+j=m)∧Hid (y=hval p f m j)∧wr.cell? ⟨w.heap.size,0,none⟩=some (.int .i64 p)∧Below w.heap.size w wr) (fun _ i _=>(intOf i+1).toNat)
 case atStart=>exact⟨m,0,0,by omega,by omega,by simp,rfl,by simp[Hid],rfl,by simp[go_sem],β⟩
 case round =>
  obtain⟨t,j,y,ht,hy,rfl,rfl,V,X,hc,I⟩:=hrel
  cases t with
  |zero =>
   go_wp2;go_ret;obtain rfl:j=m:=by have:=V.out;omega
   exact⟨Qa2 (by rw[X.out,Qj8]),I⟩
  |succ t =>
   rw[show ((t+1:Nat):Int) - 1=(t:Int) by omega];obtain⟨b,af,rfl,hb,J⟩:=T.at_ (k:=t) (by rw[Qab];omega);rw[Qas _ (by omega)]at J;have ai:=(I.cell (p:=⟨b,af+t,none⟩) hb).trans J;have aj:=O t (by omega);have ac:(0:Int)≤(y:Int)*(p:Int)∧(y:Int)*(p:Int)≤65536:=by
    have h1:=Nat.mul_le_mul hy aa;have h2:((y*p:Nat):Int)=(y:Int)*(p:Int):=by simp
    omega
   obtain⟨ao,ap⟩:=ac;clear J T;go_wp2;go_quiet (fail);go_wp2;go_roundw
   case rel =>
    have am:t+j+1=m:=by have:=V.out;omega
    have U:y*p+f t=hval p f m (j+1):=by
     show y*p+f t=hval p f m j*p+f (m - 1 - j)
     rw[X.out,show m - 1 - j=t by omega]
    exact⟨t,j+1,y*p+f t,by omega,by rw[U];exact Qo8 O hq (by omega),by go_num,by go_num,by unfold Hid;omega,U,hc,Qbj I _⟩
   case measure=>simp[intOf]
def QcX (n:Nat):Nat→Bool
 |0=>true
 |k+1=>QcX n k&&(n % (k+2) !=0)
theorem QeN (n k:Nat):QcX n (k+1)=(QcX n k&&(n % (k+2) !=0)):=rfl
theorem Qir (n k j:Nat)(h:QcX n (k+j)=true):QcX n k=true:=by
 induction j with
 |zero=>exact h
 |succ j ih=>rw[←Nat.add_assoc,QeN]at h;exact ih (by simp at h;exact h.1)
theorem Qj9 (n k:Nat):QcX n k=true↔∀d,2≤d→d<k+2→n % d≠0:=by
 induction k with
 |zero=>exact⟨fun _ d J O=>by omega,fun _=>rfl⟩
 |succ k ih =>
  rw[QeN,Bool.and_eq_true,ih];constructor
  ·rintro⟨J,O⟩ d I T;by_cases e:d=k+2
   ·subst e;simpa using O
   ·exact J d I (by omega)
  ·intro h;exact⟨fun d I T=>h d I (by omega),by simpa using h (k+2) (by omega) (by omega)⟩
theorem QfD (n d:Nat):(n:Int) % (d:Int)=((n % d:Nat):Int):=rfl
theorem Qo9 (n:Nat)(w:World)(V:2≤n)(X:n≤256) :
  Calls Tryz.prog 132 #[.int .i64 n] w fun e w'=>e=.returned (.bool (QcX n (n-2)))∧w=w':=by
 go_enter Tryz.func132,Tryz.ntmps132;go_wp2;go_loop [3] (fun d=>∃k:Nat,k+2≤n∧d=.int .i64 (k+2:Nat)∧Hid (QcX n k=true)) (fun d=>n - (intOf d).toNat)
 case atStart=>exact⟨0,by omega,rfl,rfl⟩
 case round =>
  obtain⟨k,Y,rfl,hp⟩:=hrel;have J:=η (QeN n k);by_cases aa:k+2<n
  ·by_cases I:n % (k+2)=0
   ·have T:(((n:Int) % ((k:Int)+2))==0)=true:=by
     rw[beq_iff_eq];exact (QfD n (k+2)).trans (by rw[I];rfl)
    go_wp2;go_ret;refine⟨QaB ?_,rfl⟩;have O:QcX n (k+1)=false:=by rw[J.out];simp[I]
    cases U:QcX n (n-2) with
    |false=>rfl
    |true =>
     rw[Qir n (k+1) (n-2-(k+1)) (by rw[show k+1+(n-2-(k+1))=n-2 by omega];exact U)]at O
     cases O
   ·have T:(((n:Int) % ((k:Int)+2))==0)=false:=by
     rw[beq_eq_false_iff_ne];intro e;have:=(QfD n (k+2)).symm.trans e;omega
    go_wp2;go_round
    case rel =>
     refine⟨k+1,by omega,by go_num,?_⟩
     show QcX n (k+1)=true
     rw[J.out,hp.out];simpa using I
    case measure=>simp[intOf];omega
  ·go_wp2;go_ret;have:n - 2=k:=by omega
   exact⟨QaB (by rw[this,hp.out]),rfl⟩
def qOf (P M:Int):Nat:=if P<2∨M<1∨8<M∨256<P.toNat ^ M.toNat then 0 else P.toNat ^ M.toNat
theorem QdI (P M:Int)(A:Option Addr)(n c:Nat)(w:World)(V:P≤9223372036854775807)(X:M≤9223372036854775807) :
  Calls Tryz.prog 74 #[.agg #[.int .i64 P,.int .i64 M,.slice A n c]] w fun e w'=>e=.returned (.int .i64 (qOf P M:Nat))∧Below w.heap.size w w':=by
 by_cases ag:P<2∨M<1∨8<M
 ·have I:qOf P M=0:=by
   unfold qOf;rw[if_pos (by omega)]
  rw[I];clear I;go_enter Tryz.func74,Tryz.ntmps74;go_wp2
  all_goals (go_ret;exact⟨rfl,β⟩)
 ·obtain⟨Y,h2,h3⟩:2≤P∧1≤M∧M≤8:=by omega
  obtain⟨p,rfl⟩:=Int.eq_ofNat_of_zero_le (show 0≤P by omega);obtain⟨m,rfl⟩:=Int.eq_ofNat_of_zero_le (show 0≤M by omega);replace Y:2≤p:=by omega
  replace h2:1≤m:=by omega
  replace h3:m≤8:=by omega
  replace V:p≤9223372036854775807:=by omega
  clear ag X;go_enter Tryz.func74,Tryz.ntmps74;go_wp2;go_loop [3,4] (fun q i=>∃k z:Nat,k≤m∧z≤256∧i=.int .i64 k∧q=.int .i64 z∧Hid (z=p ^ k)) (fun _ i=>m - (intOf i).toNat)
  case atStart=>exact⟨0,1,by omega,by omega,rfl,rfl,by simp[Hid]⟩
  case round =>
   obtain⟨k,z,hk,hz,rfl,rfl,J⟩:=hrel;have O:(256:Int) / (p:Int)=((256 / p:Nat):Int):=rfl;have ah:(0:Int)≤256 / (p:Int):=Int.ediv_nonneg (by decide) (by omega);have ai:(256:Int) / (p:Int)≤256:=Int.ediv_le_self _ (by omega);by_cases am:k<m
   ·by_cases U:256 / p<z
    ·have hb:(256:Int) / (p:Int)<(z:Int):=by omega
     have ad:256<p ^ (k+1):=by
      have T:=(Nat.div_lt_iff_lt_mul (by omega:0<p)).1 U;rw[J.out]at T;rw[Nat.pow_succ];exact T
     have I:Hid (qOf p m=0):=by
      unfold Hid qOf;rw[if_pos];simp only[Int.toNat_natCast];have:=Nat.pow_le_pow_right (n:=p) (by omega) (show k+1≤m by omega);omega
     clear O ad;go_wp2;go_ret;exact⟨Qa2 (by rw[I.out];rfl),β⟩
    ·have hb:(z:Int)≤(256:Int) / (p:Int):=by omega
     have ae:z*p≤256:=τ (Nat.mul_le_mul_right p (Nat.le_of_not_lt U)) (Nat.div_mul_le_self _ _);have af:((z*p:Nat):Int)=(z:Int)*(p:Int):=by simp
     have aj:(0:Int)≤(z:Int)*(p:Int):=by omega
     have ak:(z:Int)*(p:Int)≤256:=by omega
     clear O af;go_wp2;go_round
     case rel =>
      refine⟨k+1,z*p,by omega,ae,by go_num,by go_num,?_⟩
      show z*p=p ^ (k+1)
      rw[J.out,Nat.pow_succ]
     case measure=>simp[intOf];omega
   ·obtain rfl:k=m:=by omega
    have I:Hid (qOf p k=z):=by
     unfold Hid qOf;rw[if_neg,Int.toNat_natCast,Int.toNat_natCast,←J.out];simp only[Int.toNat_natCast];rw[←J.out];omega
    clear O;go_wp2;go_ret;exact⟨Qa2 (by rw[I.out]),β⟩
end
section
theorem Qi6 (D:Desc):qOf D.p D.m=D.q:=by
 have I:=D.p2;have J:=D.m1;have O:=D.m8;have T:=D.hq;unfold qOf;simp only[Int.toNat_natCast];rw[if_neg (by omega)];rfl
def Qan (D:Desc):List Int:=D.mod.map fun c:Nat=>(c:Int)
theorem Qmd (D:Desc)(x:Int)(A:Option Addr)(n c:Nat)(w:World) :
  Calls Tryz.prog 70 #[.agg #[.int .i64 D.p,.int .i64 D.m,.slice A n c],.int .i64 x] w fun e w'=>e=.returned (.bool (decide (0≤x∧x<D.q)))∧Below w.heap.size w w':=by
 have V:=D.p256;have X:=D.m8;have O:=fun w=>η (QdI D.p D.m A n c w (by omega) (by omega))
 have T:=η (Qi6 D);have Y:=D.q256;by_cases h0:0≤x
 ·by_cases I:x<D.q
  ·have U:decide (x<(D.q:Int))=true:=by simpa using I
   go_enter Tryz.func70,Tryz.ntmps70;go_wp2_with (go_at_call 74;refine (O _).out.mono ?_;rw[T.out];rintro e w1 ⟨rfl,J⟩);go_ret;exact⟨QaB (by simp[h0,I]),(β).trans (J.mono (by simp))⟩
  ·have U:decide (x<(D.q:Int))=false:=by simpa using I
   go_enter Tryz.func70,Tryz.ntmps70;go_wp2_with (go_at_call 74;refine (O _).out.mono ?_;rw[T.out];rintro e w1 ⟨rfl,J⟩);go_ret;exact⟨QaB (by simp[I]),(β).trans (J.mono (by simp))⟩
 ·go_enter Tryz.func70,Tryz.ntmps70;go_wp2_with fail;go_ret;exact⟨QaB (by simp;omega),β⟩
theorem Qka (D:Desc)(x:Int)(A:Option Addr)(n c:Nat)(w:World) :
  Calls Tryz.prog 49 #[.agg #[.int .i64 D.p,.int .i64 D.m,.slice A n c],.int .i64 x] w fun e w'=>e=.returned (.int .i64 (ci (eli D x)))∧Below w.heap.size w w':=by
 have O:=fun w=>η (Qmd D x A n c w)
 have T:=η (QsK (D:=D) x);by_cases h:0≤x∧x<D.q
 ·have I:=η (decide_eq_true h);go_enter Tryz.func49,Tryz.ntmps49;go_wp2_with (go_at_call 70;refine (O _).out.mono ?_;rw[I.out];rintro e w1 ⟨rfl,J⟩);go_ret;exact⟨Qa2 (by rw[T.out,if_pos h]),(β).trans (J.mono (by simp))⟩
 ·have I:=η (decide_eq_false h);go_enter Tryz.func49,Tryz.ntmps49;go_wp2_with (go_at_call 70;refine (O _).out.mono ?_;rw[I.out];rintro e w1 ⟨rfl,J⟩);go_ret;exact⟨Qa2 (by rw[T.out,if_neg h]),(β).trans (J.mono (by simp))⟩
theorem Qvn (D:Desc)(x:Int)(i:Nat)(h:i<D.m):dgi D.p (ci (eli D x)).toNat i=(di (eli D x) i:Nat):=by
 unfold dgi;rw[QiW,Qd4 _ h]
def dl {D:Desc} (u:R D):List Int:=lst D.m fun i=>(di u i:Nat)
theorem Qc3 (D:Desc)(x:Int)(A:Option Addr)(n c:Nat)(w:World) :
  Calls Tryz.prog 120 #[.agg #[.int .i64 D.p,.int .i64 D.m,.slice A n c],.int .i64 x] w (Qcj w.heap.size (dl (eli D x)) w):=by
 have af:=D.p2;have ag:=D.p256;have ah:=D.m8;have U:=fun w=>η (Qka D x A n c w)
 have V:=Qa8 (eli D x);have hl:=QqW (eli D x);obtain⟨y,I⟩:=Int.eq_ofNat_of_zero_le V;have X:=fun w=>η (Qiq y D.p D.m w (by omega) (by omega) (by omega) (by omega))
 have Y:Hid (lst D.m (dgi D.p y)=dl (eli D x)):=Qay fun i hi=>by rw[←Qvn D x i hi,I];rfl
 have aa:=η I;clear I;have k0:=η (Qb9 w (.int .i64 D.p) (.int .i64 D.m) (.slice A n c) 24);go_enter Tryz.func120,Tryz.ntmps120;go_wp2;go_region_held3 (fun w'=>w'.cell? ⟨w.heap.size,0,none⟩=some (.int .i64 D.p)∧w'.cell? ⟨w.heap.size,1,none⟩=some (.int .i64 D.m)∧w'.cell? ⟨w.heap.size,2,none⟩=some (.slice A n c)) (first |exact k0.out |exact k2.out |exact O.out)
  (first
   |(go_at_call 49;refine (U _).out.mono ?_;rw[aa.out];rintro e w1 ⟨rfl,J⟩;have O:=η (Qau (b:=w.heap.size) J (by simp) k0.out);have ab:=J.size;simp only[World.drew,World.size_alloc]at ab)
   |(go_at_call 173;refine (X _).out.mono ?_;rw[Y.out];rintro e w2 ⟨g,rfl,hg,ad,T⟩;have k2:=η (Qau (b:=w.heap.size) T (by omega) O.out)))
 go_wp2;go_ret;exact⟨g,by simp[dl,Qab],by omega,ad,(((β).drew).trans (J.mono (by simp))).trans (T.mono (by omega))⟩
theorem Qd7 (D:Desc)(x y:Int)(A:Option Addr)(n c:Nat)(w:World) :
    Calls Tryz.prog 118 #[.agg #[.int .i64 D.p,.int .i64 D.m,.slice A n c],.int .i64 x,.int .i64 y] w fun e w' =>
      e=.returned (.int .i64 (ci (eli D x+eli D y)))∧Below w.heap.size w w':=by
  have aG:=D.p2;have ap:=D.p256;have aq:=D.m8;have hD:=fun z w=>η (Qc3 D z A n c w)
  generalize hu:eli D x=u;generalize hv:eli D y=v;have af:=fun w=>η (hu ▸ (hD x w).out)
  have ag:=fun w=>η (hv ▸ (hD y w).out)
  clear hD hu hv;have k0:=η (Qb9 w (.int .i64 D.p) (.int .i64 D.m) (.slice A n c) 24);go_enter Tryz.func118,Tryz.ntmps118;go_wp2_with fail;refine (af _).out.mono ?_;rintro e w1 ⟨I,rfl,aC,ae,X⟩;have k1:=η (Qau (b:=w.heap.size) X (by simp) k0.out);have ar:=X.size;simp only[World.size_alloc]at ar aC;have au:(dl u).length=D.m:=Qab _ _;simp only[au];obtain⟨J,O,T⟩:=k1.out;go_wp2_with fail;refine (ag _).out.mono ?_;rintro e w2 ⟨g2,rfl,aO,aE,V⟩;have k2:=η (Qau (b:=w.heap.size) V (by omega) k1.out);have aH:=V.size;have ai:(dl v).length=D.m:=Qab _ _;simp only[ai];have aI:=ae.lt;have av:=ae.below V (by omega);have aw:Below w.heap.size w w2:=((β).trans (X.mono (by simp))).trans (V.mono (by omega));clear J O T ae X V k1 k0 af;obtain⟨J,O,T⟩:=k2.out;go_wp2_with fail;have aJ:=ag;clear J O T;have aj:w.heap.size<I:=by omega
  have ax:I<g2:=by omega
  go_loopw [9] (fun i wr=>∃ k:Nat,k≤D.m∧i=.int .i64 k∧IB wr I (mix D.m k (fun i=>(di (u+v) i:Nat)) (fun i=>(di u i:Nat)))∧IB wr g2 (dl v)∧Below w.heap.size w wr ∧
     Hid (wr.cell? ⟨w.heap.size,0,none⟩=some (.int .i64 D.p)∧wr.cell? ⟨w.heap.size,1,none⟩=some (.int .i64 D.m)∧wr.cell? ⟨w.heap.size,2,none⟩=some (.slice A n c))) (fun i _=>D.m - (intOf i).toNat)
  case atStart=>exact⟨0,by omega,rfl,by rw[Qfv];exact av,aE,aw,k2⟩
  case round =>
    obtain⟨k,hk,rfl,U,al,ac,ad⟩:=hrel;by_cases Y:k<D.m
    · have ay:=U.cell (i:=k) (by rw[Qce];exact Y);rw[Qc2 _ _ Y]at ay;have ak:=al.cell (i:=k) (by rw[ai];exact Y);unfold dl at ak;rw[Qas _ Y]at ak;have hf:=U.frozen k;have az:=η (U.set_ k (di (u+v) k:Nat));have aL:=Qd3 u k;have aM:=Qd3 v k;obtain⟨J,O,T⟩:=ad.out;go_wp2_with fail;go_region
      all_goals go_wp2_with fail
      go_roundw
      case rel =>
        have h:=az.out;rw[show ((di (u+v) k:Nat):Int)=((di u k:Int)+(di v k:Int)) % (D.p:Int) by rw[QjZ];simp]at h;refine⟨k+1,by omega,by go_num,?_,?_,(ac.setCell (p:=⟨I,k,none⟩) (Nat.le_of_lt aj) _).drew,?_⟩
        · rw[←Qf0];rw[show ((di (u+v) k:Nat):Int)=((di u k:Int)+(di v k:Int)) % (D.p:Int) by rw[QjZ];simp];exact h
        · exact al.far (p:=⟨I,k,none⟩) (Nat.ne_of_gt ax) _
        · exact Qau (B:=w.heap.size+1) (κ.setCell (p:=⟨I,k,none⟩) aj _).drew (by omega) ad.out
      case measure=>simp[intOf];omega
    · obtain rfl:k=D.m:=by omega
      rw[QiU]at U;obtain⟨J,O,T⟩:=ad.out;have hV:=η (Qhf D.p D.m (di (u+v)) D.m A (some ⟨I,0,none⟩) n c D.m wr (by omega) ap aq (fun i _=>Qd3 _ i) D.hq (U.rd));go_wp2_with fail;refine hV.out.mono ?_;rintro e w3 ⟨rfl,aF⟩;have aB:=ac.size;go_wp2_with fail;go_ret;exact⟨rfl,ac.trans (aF.mono aB)⟩
end
section
theorem Qhg (D:Desc)(x:Int)(A:Option Addr)(n c:Nat)(w:World) :
    Calls Tryz.prog 101 #[.agg #[.int .i64 D.p,.int .i64 D.m,.slice A n c],.int .i64 x] w fun e w' =>
      e=.returned (.int .i64 (ci (-(eli D x))))∧Below w.heap.size w w':=by
  have av:=D.p2;have ac:=D.p256;have ad:=D.m8;have V:=fun w=>η (Qc3 D x A n c w)
  generalize hu:eli D x=u;rw[hu]at V;clear hu;have k0:=η (Qb9 w (.int .i64 D.p) (.int .i64 D.m) (.slice A n c) 24);go_enter Tryz.func101,Tryz.ntmps101;go_wp2_with fail;refine (V _).out.mono ?_;rintro e w1 ⟨J,rfl,ar,Y,O⟩;have k1:=η (Qau (b:=w.heap.size) O (by simp) k0.out);have af:=O.size;simp only[World.size_alloc]at af ar;have ag:(dl u).length=D.m:=Qab _ _;simp only[ag];have aw:=Y.lt;have ah:Below w.heap.size w w1:=(β).trans (O.mono (by simp));clear O k0;go_wp2_with fail;have X:w.heap.size<J:=by omega
  go_loopw [6] (fun i wr=>∃ k:Nat,k≤D.m∧i=.int .i64 k∧IB wr J (mix D.m k (fun i=>(di (-u) i:Nat)) (fun i=>(di u i:Nat)))∧Below w.heap.size w wr ∧
     Hid (wr.cell? ⟨w.heap.size,0,none⟩=some (.int .i64 D.p)∧wr.cell? ⟨w.heap.size,1,none⟩=some (.int .i64 D.m)∧wr.cell? ⟨w.heap.size,2,none⟩=some (.slice A n c))) (fun i _=>D.m - (intOf i).toNat)
  case atStart=>exact⟨0,by omega,rfl,by rw[Qfv];exact Y,ah,k1⟩
  case round =>
    obtain⟨k,hk,rfl,I,T,U⟩:=hrel;by_cases ab:k<D.m
    · have ai:=I.cell (i:=k) (by rw[Qce]; exact ab);rw[Qc2 _ _ ab]at ai;have hf:=I.frozen k;have aj:=η (I.set_ k (di (-u) k:Nat));have ak:=Qd3 u k;have al:Hid (((di (-u) k:Nat):Int)=(-(di u k:Int)) % (D.p:Int)):=by
        show ((di (-u) k:Nat):Int)=_
        rw[QoK,Int.natCast_emod,Int.natCast_sub (Nat.le_of_lt ak)];simp
      obtain⟨ao,ap,aq⟩:=U.out;go_wp2_with fail;go_region
      all_goals go_wp2_with fail
      go_roundw
      case rel =>
        have h:=aj.out;refine⟨k+1,by omega,by go_num,?_,(T.setCell (p:=⟨J,k,none⟩) (Nat.le_of_lt X) _).drew,?_⟩
        · rw[←Qf0];rw[al.out]at h ⊢;exact h
        · exact Qau (B:=w.heap.size+1) (κ.setCell (p:=⟨J,k,none⟩) X _).drew (by omega) U.out
      case measure=>simp[intOf];omega
    · obtain rfl:k=D.m:=by omega
      rw[QiU]at I;obtain⟨ao,ap,aq⟩:=U.out;have hV:=η (Qhf D.p D.m (di (-u)) D.m A (some ⟨J,0,none⟩) n c D.m wr (by omega) ac ad (fun i _=>Qd3 _ i) D.hq (I.rd));go_wp2_with fail;refine hV.out.mono ?_;rintro e w3 ⟨rfl,au⟩;have an:=T.size;go_wp2_with fail;go_ret;exact⟨rfl,T.trans (au.mono an)⟩
theorem QeO (D:Desc){l:Nat} (h:l<D.mod.length):(Qan D)[l]?.getD 0=((D.mod.getD l 0:Nat):Int):=by
 simp[Qan,h]
theorem Qaf (D:Desc):(Qan D).length=D.mod.length:=by simp[Qan]
structure Qkb (D:Desc) (u v:R D) (A:Option Addr) (n c g1 g2 g3 N:Nat) (w:World) (cf:Nat→Nat) (wr:World):Prop where
 lt:∀t,cf t<D.p
 i1:IB wr g1 (dl u)
 i2:IB wr g2 (dl v)
 i3:IB wr g3 (lst N fun t=>(cf t:Nat))
 bw:Below w.heap.size w wr
 bx:wr.cell? ⟨w.heap.size,0,none⟩=some (.int .i64 D.p)∧wr.cell? ⟨w.heap.size,1,none⟩=some (.int .i64 D.m)∧wr.cell? ⟨w.heap.size,2,none⟩=some (.slice A n c)
theorem Qkb.step {D:Desc} {u v:R D} {A:Option Addr} {n c J O I N:Nat} {w wr:World} {T:Nat→Nat} (h:Qkb D u v A n c J O I N w T wr)
  (V:w.heap.size<J) (X:J<O) (Y:O<I) (k t:Nat) {z:Int} (hz:z=((t % D.p:Nat):Int)) :
  Qkb D u v A n c J O I N w (fup T k (t % D.p)) (wr.setCell ⟨I,k,none⟩ (.int .i64 z)).drew where
 lt i:=by
  unfold fup;by_cases e:i=k
  ·rw[if_pos e];exact Nat.mod_lt _ (by have:=D.p2;omega)
  ·rw[if_neg e];exact h.lt i
 i1:=(h.i1.far (p:=⟨I,k,none⟩) (by show J≠I;omega) _).drew
 i2:=(h.i2.far (p:=⟨I,k,none⟩) (by show O≠I;omega) _).drew
 i3:=by
  have U:=(h.i3.set_ k z).drew;rw[Qd1]at U;have e:(fun i=>if i=k then z else ((T i:Nat):Int))=fun i=>((fup T k (t % D.p) i:Nat):Int):=funext fun i=>by
   unfold fup;by_cases e:i=k
   ·rw[if_pos e,if_pos e,hz]
   ·rw[if_neg e,if_neg e]
  rw[e]at U;exact U
 bw:=(h.bw.setCell (p:=⟨I,k,none⟩) (by show w.heap.size≤I;omega) _).drew
 bx:=Qau (B:=w.heap.size+1) (κ.setCell (p:=⟨I,k,none⟩) (by show w.heap.size+1≤I;omega) _).drew (by omega) h.bx
theorem Qdb (D:Desc)(x y:Int)(A:Option Addr)(c:Nat)(w:World)(hr:Rd w w.heap.size A (Qan D)) :
  Calls Tryz.prog 57 #[.agg #[.int .i64 D.p,.int .i64 D.m,.slice A D.mod.length c],.int .i64 x,.int .i64 y] w fun e w' =>
   e=.returned (.int .i64 (ci (eli D x*eli D y)))∧Below w.heap.size w w':=by
 have bB:=D.p2;have ad:=D.p256;have aT:=D.m8;have bC:=D.m1;have ay:=fun w=>η (Qc3 D x A D.mod.length c w)
 have az:=fun w=>η (Qc3 D y A D.mod.length c w)
 generalize eli D x=u at *;generalize eli D y=v at *;obtain⟨N,hN⟩:∃N:Nat,N+1=2*D.m:=⟨2*D.m - 1,by omega⟩;have aA:2*(D.m:Int) - 1=(N:Int):=by omega
 have aU:∀w:World,(Instr.makeSlice 22 (.int .i64 (2*(D.m:Int) - 1)) (.int .i64 (2*(D.m:Int) - 1))).run Tryz.prog w =
   .ok (.slice (some ⟨w.heap.size,0,none⟩) N N) (w.alloc (.cells (Array.replicate N (Value.int .i64 0)) 3)):=fun w=>by
  rw[aA];exact QaC N (by omega) w
 have ac:=η hN;have aV:D.m≤N:=by omega
 have bD:N≤15:=by omega
 clear hN aA;have k0:=η (Qb9 w (.int .i64 D.p) (.int .i64 D.m) (.slice A D.mod.length c) 24);have aB:(dl u).length=D.m:=Qab _ _;have aC:(dl v).length=D.m:=Qab _ _;go_enter Tryz.func57,Tryz.ntmps57;go_wp2_with fail;refine (ay _).out.mono ?_;rintro e w1 ⟨Y,rfl,bA,ax,ak⟩;have k1:=η (Qau (b:=w.heap.size) ak (by simp) k0.out);have aW:=ak.size;simp only[World.size_alloc]at aW bA;simp only[aB];obtain⟨T,U,V⟩:=k1.out;go_wp2_with fail;refine (az _).out.mono ?_;rintro e w2 ⟨g2,rfl,bR,aP,ag⟩;have k2:=η (Qau (b:=w.heap.size) ag (by omega) k1.out);have bE:=ag.size;simp only[aC];have bF:=ax.lt;have aX:=aP.lt;have aY:=ax.below ag (by omega);have aZ:Below w.heap.size w w2:=((β).trans (ak.mono (by simp))).trans (ag.mono (by omega));clear T U V ax ak ag k1 k0 ay az;obtain⟨T,U,V⟩:=k2.out;have a0:Hid (Qkb D u v A D.mod.length c Y g2 w2.heap.size N w (fun _=>0) (w2.alloc (.cells (Array.replicate N (Value.int .i64 0)) 3))) :=
  ⟨fun _=>by omega,aY.alloc _,aP.alloc _,by have:=IB.newz w2 N;rw[Qd2]at this;exact this,aZ.alloc (by omega) _,
   Qau (B:=w2.heap.size) (β) (by omega) k2.out⟩
 have am:w.heap.size<Y:=by omega
 have an:Y<g2:=by omega
 have ao:g2<w2.heap.size:=aX;go_wp2_with fail;clear T U V k2 aU;generalize w2.heap.size=g3 at *;go_loopw [10,11] (fun i _ wr=>∃ (k:Nat) (I:Nat→Nat),k≤D.m∧i=.int .i64 k∧Hid (Qkb D u v A D.mod.length c Y g2 g3 N w I wr)∧Hid (ev D I N=pp u v k 0)) (fun i _ _=>D.m - (intOf i).toNat)
 case atStart=>exact⟨0,fun _=>0,by omega,rfl,a0,by unfold Hid;rw[QoL,QtC]⟩
 case round =>
  obtain⟨k,I,hk,rfl,J,O⟩:=hrel;obtain⟨T,U,V⟩:=J.out.bx;by_cases aR:k<D.m
  ·go_wp2_with fail;clear T U V;obtain⟨wo,rfl⟩:=ε (wr:World);go_loopw [11] (fun j wr=>∃ (l:Nat) (I:Nat→Nat),l≤D.m∧j=.int .i64 l∧Hid (Qkb D u v A D.mod.length c Y g2 g3 N w I wr)∧Hid (ev D I N=pp u v k l)) (fun j _=>D.m - (intOf j).toNat)
   case atStart=>exact⟨0,I,by omega,rfl,J,O⟩
   case round =>
    clear J O I;obtain⟨l,I,hl,rfl,J,O⟩:=hrel;obtain⟨T,U,V⟩:=J.out.bx;by_cases ah:l<D.m
    ·have ap:=J.out.i3.cell (i:=k+l) (by rw[Qab];have:=ac.out;omega);rw[Qas _ (by have:=ac.out;omega)]at ap;have aD:=J.out.i1.cell (i:=k) (by rw[aB];exact aR);have aE:=J.out.i2.cell (i:=l) (by rw[aC];exact ah);unfold dl at aD aE;rw[Qas _ aR]at aD;rw[Qas _ ah]at aE;have hf:=J.out.i3.frozen (k+l);have a2:=Qd3 u k;have a3:=Qd3 v l;have a4:=J.out.lt (k+l);have a5:k+l<N:=by have:=ac.out;omega
     obtain⟨bt,bu⟩:(0:Int)≤(di u k:Int)*(di v l:Int)∧(di u k:Int)*(di v l:Int)≤65536:=by
      have h1:=Nat.mul_le_mul (τ (Nat.le_of_lt a2) ad) (τ (Nat.le_of_lt a3) ad);have h2:((di u k*di v l:Nat):Int)=(di u k:Int)*(di v l:Int):=by simp
      omega
     have aq:=η (J.out.step am an ao (k+l) (I (k+l)+di u k*di v l) (z:=((I (k+l):Int)+(di u k:Int)*(di v l:Int)) % (D.p:Int)) (by simp));have ar:Hid (ev D (fup I (k+l) ((I (k+l)+di u k*di v l) % D.p)) N=pp u v k (l+1)):=by
      unfold Hid;rw[Qlb _ _ a5,O.out,QtD]
     clear J O;go_wp2_with fail;go_region
     all_goals go_wp2_with fail
     go_roundw
     case rel=>exact⟨l+1,_,by omega,by go_num,aq,ar⟩
     case measure=>simp[intOf];omega
    ·obtain rfl:l=D.m:=by omega
     go_wp2_with fail;go_roundw
     case rel=>exact⟨k+1,I,by omega,by go_num,J,by unfold Hid;rw[O.out,Qvj]⟩
     case measure=>simp[intOf];omega
  ·obtain rfl:k=D.m:=by omega
   have aF:Hid (ev D I N=u*v):=by unfold Hid;rw[O.out,QtE]
   clear O;go_wp2_with fail;clear T U V;go_loopw [12,13] (fun i _ wr=>∃ (t:Nat) (I:Nat→Nat),t+1≤D.m∧i=.int .i64 ((t:Int)+(D.m:Int) - 1)∧Hid (Qkb D u v A D.mod.length c Y g2 g3 N w I wr)∧Hid (ev D I (t+D.m)=u*v)) (fun i _ _=>(intOf i).toNat)
   case atStart=>exact⟨D.m - 1,I,by omega,by congr 1;omega,J,by have:=ac.out;rw[show D.m - 1+D.m=N by omega];exact aF⟩
   case round =>
    clear J aF I;obtain⟨t,I,ht,rfl,J,O⟩:=hrel;obtain⟨T,U,V⟩:=J.out.bx
    cases t with
    |zero =>
     rw[Nat.zero_add]at O;have hV:=η (Qhf D.p D.m I D.m A (some ⟨g3,0,none⟩) D.mod.length c N wr.drew (by omega) ad aT (fun i _=>J.out.lt i) D.hq
      (by have h4:=(J.out.i3.rd).take D.m;rw[Qdp _ aV]at h4;exact h4))
     have aH:w.heap.size<wr.heap.size:=Nat.lt_trans (Nat.lt_trans am an) (Nat.lt_trans ao J.out.i3.lt);have a9:Hid (((Qds D.p I D.m:Nat):Int)=ci (u*v)):=by unfold Hid ci;rw[QtB _ (fun i _=>J.out.lt i),O.out]
     have ba:=J.out.bw;have aI:=η J.out.bx;clear J O;go_wp2_with fail;go_region_held3 (fun w'=>w'.cell? ⟨w.heap.size,0,none⟩=some (.int .i64 D.p)∧w'.cell? ⟨w.heap.size,1,none⟩=some (.int .i64 D.m)∧w'.cell? ⟨w.heap.size,2,none⟩=some (.slice A D.mod.length c)) (first |exact aI.out |exact k2.out)
      (first
       |(go_at_call 121;refine hV.out.mono ?_;rintro e w3 ⟨rfl,aQ⟩;have k2:=η (Qau (b:=w.heap.size) aQ aH aI.out)))
     go_wp2_with fail;go_ret;exact⟨Qa2 a9.out,ba.drew.trans (aQ.mono (Nat.le_of_lt aH))⟩
    |succ r =>
     rw[show ((r+1:Nat):Int)+(D.m:Int) - 1=(r:Int)+(D.m:Int) by omega];have au:D.mod.length=D.m:=by have:=D.hlen;rw[if_neg (by omega)]at this;exact this
     obtain⟨C,X⟩:=ε (I (r+D.m));have av:C<D.p:=by rw[X];exact J.out.lt _
     have aJ:Hid (ev D I (r+D.m)=u*v - sc (zp D.p C)*pw (Xc D) (r+D.m)+rd1 D C r 0):=by
      have h5:=O.out;rw[show r+1+D.m=r+D.m+1 by omega,Qd5,←X]at h5
      show ev D I (r+D.m)=_
      rw[QqX,Qad,←h5,QaI]
     have aL:=η X;clear X O;have bb:decide ((D.m:Int)≤(r:Int)+(D.m:Int))=true:=decide_eq_true (by omega);go_wp2_with fail;clear T U V bb;obtain⟨wo,rfl⟩:=ε (wr:World);go_loopw [13] (fun j wr=>∃ (l:Nat) (I:Nat→Nat),l≤D.m∧j=.int .i64 l∧Hid (Qkb D u v A D.mod.length c Y g2 g3 N w I wr)∧Hid (C=I (r+D.m))∧Hid (ev D I (r+D.m)=u*v - sc (zp D.p C)*pw (Xc D) (r+D.m)+rd1 D C r l)) (fun j _=>D.m - (intOf j).toNat)
     case atStart=>exact⟨0,I,by omega,rfl,J,aL,aJ⟩
     case round =>
      clear J aJ aL I;obtain⟨l,I,hl,rfl,J,X,O⟩:=hrel;obtain⟨T,U,V⟩:=J.out.bx;by_cases ah:l<D.m
      ·have aM:r+l<N:=by have:=ac.out;omega
       have aN:r+D.m<N:=by have:=ac.out;omega
       have ap:=J.out.i3.cell (i:=r+l) (by rw[Qab];exact aM);rw[Qas _ aM]at ap;have bc:=J.out.i3.cell (i:=r+D.m) (by rw[Qab];exact aN);rw[Qas _ aN,←X.out]at bc;obtain⟨b,bv,rfl,hb,aw⟩:=hr.at_ (k:=l) (by rw[Qaf,au];exact ah);rw[QeO D (by rw[au];exact ah)]at aw;have be:=(J.out.bw.cell (p:=⟨b,bv+l,none⟩) hb).trans aw;clear aw;obtain⟨ml,aj⟩:=ε (D.mod.getD l 0);have bf:ml<D.p:=by rw[aj];exact D.hmod l
       rw[←aj]at be;have bG:l<D.mod.length:=by omega
       have hf:=J.out.i3.frozen (r+l);have a4:=J.out.lt (r+l);obtain⟨bt,bu⟩:(0:Int)≤((D.p:Int) - (C:Int))*(ml:Int)∧((D.p:Int) - (C:Int))*(ml:Int)≤65536:=by
        have h1:=Nat.mul_le_mul (τ (Nat.sub_le D.p C) ad) (τ (Nat.le_of_lt bf) ad);have h2:(((D.p - C)*ml:Nat):Int)=((D.p:Int) - (C:Int))*(ml:Int):=by rw[Int.natCast_mul,Int.natCast_sub (Nat.le_of_lt av)]
        omega
       have aq:=η (J.out.step am an ao (r+l) (I (r+l)+(D.p - C)*ml) (z:=((I (r+l):Int)+((D.p:Int) - (C:Int))*(ml:Int)) % (D.p:Int))
        (by rw[Int.natCast_emod,Int.natCast_add,Int.natCast_mul,Int.natCast_sub (Nat.le_of_lt av)]))
       have ar:Hid (ev D (fup I (r+l) ((I (r+l)+(D.p - C)*ml) % D.p)) (r+D.m)=u*v - sc (zp D.p C)*pw (Xc D) (r+D.m)+rd1 D C r (l+1)):=by
        unfold Hid;rw[Qlb _ _ (by omega),O.out,QqY,aj,QcD]
       have bg:Hid (C=fup I (r+l) ((I (r+l)+(D.p - C)*ml) % D.p) (r+D.m)):=by
        unfold Hid fup;rw[if_neg (by omega)];exact X.out
       clear J O X au aj;have bH:(0:Int)≤(r:Int)+(l:Int):=by omega
       have bI:(r:Int)+(l:Int)<(N:Int):=by omega
       have bh:((r:Int)+(l:Int)).toNat=r+l:=by omega
       have bJ:(0:Int)≤(r:Int)+(D.m:Int):=by omega
       have bK:(r:Int)+(D.m:Int)<(N:Int):=by omega
       have bi:((r:Int)+(D.m:Int)).toNat=r+D.m:=by omega
       have bL:(l:Int)<(D.mod.length:Int):=by omega
       have e1:IntKind.i64.wrap (r:Int)=(r:Int):=IntWalk.i64_in _ (by omega);have e2:IntKind.i64.wrap ((r:Int)+(l:Int))=(r:Int)+(l:Int):=IntWalk.i64_in _ (by omega);have e3:IntKind.i64.wrap ((D.p:Int) - (C:Int))=(D.p:Int) - (C:Int):=IntWalk.i64_in _ (by omega);have e4:IntKind.i64.wrap (((D.p:Int) - (C:Int))*(ml:Int))=((D.p:Int) - (C:Int))*(ml:Int):=IntWalk.i64_in _ (by omega);have e5:IntKind.i64.wrap ((I (r+l):Int)+((D.p:Int) - (C:Int))*(ml:Int))=(I (r+l):Int)+((D.p:Int) - (C:Int))*(ml:Int):=IntWalk.i64_in _ (by omega);have bM:¬ D.p=0:=by omega
       have bp:0≤(I (r+l):Int)+((D.p:Int) - (C:Int))*(ml:Int):=by omega
       have bN:=Int.emod_lt_of_pos ((I (r+l):Int)+((D.p:Int) - (C:Int))*(ml:Int)) (show (0:Int)<D.p by omega);have bO:=Int.emod_nonneg ((I (r+l):Int)+((D.p:Int) - (C:Int))*(ml:Int)) (show (D.p:Int)≠0 by omega);have e6:((I (r+l):Int)+((D.p:Int) - (C:Int))*(ml:Int)).tmod (D.p:Int)=((I (r+l):Int)+((D.p:Int) - (C:Int))*(ml:Int)) % (D.p:Int):=Int.tmod_eq_emod_of_nonneg bp;have e7:IntKind.i64.wrap (((I (r+l):Int)+((D.p:Int) - (C:Int))*(ml:Int)) % (D.p:Int))=((I (r+l):Int)+((D.p:Int) - (C:Int))*(ml:Int)) % (D.p:Int):=IntWalk.i64_in _ (by omega);go_wp2_with fail;go_still_tail 34,(by kernel_rfl);change wpList _ _ _ _ _ wr.drew;clear e1 e2 e3 e4 e5 e6 e7 bh bi;go_wp2_with fail;go_roundw
       case rel=>exact⟨l+1,_,by omega,by go_num,aq,bg,ar⟩
       case measure=>simp[intOf];omega
      ·obtain rfl:l=D.m:=by omega
       go_wp2_with fail;go_roundw
       case rel=>exact⟨r,I,by omega,by first |rfl |go_num |(congr 1;omega),J,by unfold Hid;rw[O.out,QqZ (Nat.le_of_lt av),QbX]⟩
       case measure=>simp[intOf];omega
end
section
open Cw.CField (inv)
def Bx (w:World)(b:Nat)(D:Desc)(A:Option Addr)(n c:Nat):Prop :=
 w.cell? ⟨b,0,none⟩=some (.int .i64 D.p)∧w.cell? ⟨b,1,none⟩=some (.int .i64 D.m)∧w.cell? ⟨b,2,none⟩=some (.slice A n c)
theorem Bx.new (w:World)(D:Desc)(A:Option Addr)(n c:Nat)(t:TypeId):Bx (w.alloc (.cells #[.int .i64 D.p,.int .i64 D.m,.slice A n c] t)) w.heap.size D A n c:=Qb9 _ _ _ _ _
theorem Bx.below {B b:Nat} {W w1:World} {D:Desc} {A:Option Addr} {n c:Nat} (h:Bx W b D A n c)(I:Below B W w1)(J:b<B):Bx w1 b D A n c:=Qau I J h
theorem Bx.drew {b:Nat} {W:World} {D:Desc} {A:Option Addr} {n c:Nat} (h:Bx W b D A n c):Bx W.drew b D A n c:=h
end
section
open Cw.CField (inv)
theorem Qe7 (D:FD)(x:Int)(A:Option Addr)(c:Nat)(w:World)(T:Rd w w.heap.size A (Qan D.z)) :
  Calls Tryz.prog 142 #[.agg #[.int .i64 D.p,.int .i64 D.m,.slice A D.mod.length c],.int .i64 x] w fun e w' =>
   e=.returned (.int .i64 (ci (inv (eli D.z x))))∧Below w.heap.size w w':=by
 have aq:=D.q2;have ar:=D.q256;have au:=D.p256;have av:=D.m8;have hM:=fun y w (T:Rd w w.heap.size A (Qan D.z))=>η (Qdb D.z x y A c w T)
 have Y:=fun w=>η (QdI D.p D.m A D.mod.length c w (by omega) (by omega))
 have aa:=η (Qi6 D.z);generalize eli D.z x=u at *;have al:=Bx.new w D.z A D.mod.length c 24;go_enter Tryz.func142,Tryz.ntmps142;go_wp2_with fail;go_loopw [5] (fun y wr=>∃k:Nat,1≤k∧k≤D.q∧y=.int .i64 k∧Bx wr w.heap.size D.z A D.mod.length c∧Below w.heap.size w wr∧w.heap.size<wr.heap.size∧Hid (∀j,1≤j→j<k→u*eli D.z j≠1)) (fun y _=>D.q - (intOf y).toNat)
 case atStart=>exact⟨1,by omega,by omega,rfl,al,β,by simp,fun j U h2=>by omega⟩
 case round =>
  obtain⟨k,az,aA,rfl,V,J,ae,ah⟩:=hrel;have kc:=V;obtain⟨ai,aj,ak⟩:=kc;by_cases aB:k<D.q
  ·by_cases X:u*eli D.z k=1
   ·have ab:=η (Qev.2 X);have ac:Hid ((k:Int)=ci (inv u)):=by
     unfold Hid;rw[←Qc1 X,Qci ⟨by omega,by omega⟩]
    go_wp2_with fail;refine (Y _).out.mono ?_;rw[aa.out];rintro e w1 ⟨rfl,I⟩;obtain⟨ai,aj,ak⟩:=V.below I ae;have an:=I.size;go_wp2_with fail;refine (hM _ _ (T.below (J.trans (I.mono (by omega))) |>.more (by omega))).out.mono ?_;rw[ab.out];rintro e w2 ⟨rfl,O⟩;go_wp2_with fail;go_ret;exact⟨Qa2 ac.out,J.trans ((I.mono (by omega)).trans (O.mono (by omega)))⟩
   ·have ab:Hid ((ci (u*eli D.z k)==1)=false):=by
     unfold Hid;rw[beq_eq_false_iff_ne];exact fun h=>X (Qev.1 h)
    go_wp2_with fail;refine (Y _).out.mono ?_;rw[aa.out];rintro e w1 ⟨rfl,I⟩;obtain⟨ai,aj,ak⟩:=V.below I ae;have an:=I.size;have ao:=V.below I ae;go_wp2_with fail;refine (hM _ _ (T.below (J.trans (I.mono (by omega))) |>.more (by omega))).out.mono ?_;rintro e w2 ⟨rfl,O⟩;have aw:=ab.out;go_wp2_with fail;go_roundw
    case rel =>
     refine⟨k+1,by omega,by omega,by go_num,ao.below O (by omega),J.trans ((I.mono (by omega)).trans (O.mono (by omega))),by have:=O.size;omega,fun j U h2=>?_⟩;by_cases e:j=k
     ·subst e;exact X
     ·exact ah.out j U (by omega)
    case measure=>simp[intOf];omega
  ·have ac:Hid ((0:Int)=ci (inv u)):=by
    unfold Hid;by_cases hu:u=0
    ·rw[hu,Qdn,QaF]
    ·exfalso;have U:inv u≠0:=Qby hu;have h2:=Qa8 (inv u);have h3:=Qeu (inv u);have h4:ci (inv u)≠0:=fun e=>U (Qaq.1 e)
     refine ah.out (ci (inv u)).toNat (by omega) (by omega) ?_;rw[Int.toNat_of_nonneg h2,Qam,Qd0 hu]
   go_wp2_with fail;refine (Y _).out.mono ?_;rw[aa.out];rintro e w1 ⟨rfl,I⟩;go_wp2_with fail;go_ret;exact⟨Qa2 ac.out,J.trans (I.mono (by omega))⟩
end
section
theorem QtN {B b b':Nat} {W w1:World} {J v1 v2 u0 u1 u2:Value} (O:Below B W w1)(T:b<B)(U:b'<B)
  (h:W.cell? ⟨b,0,none⟩=some J∧W.cell? ⟨b,1,none⟩=some v1∧W.cell? ⟨b,2,none⟩=some v2∧W.cell? ⟨b',0,none⟩=some u0∧W.cell? ⟨b',1,none⟩=some u1∧W.cell? ⟨b',2,none⟩=some u2) :
  w1.cell? ⟨b,0,none⟩=some J∧w1.cell? ⟨b,1,none⟩=some v1∧w1.cell? ⟨b,2,none⟩=some v2∧w1.cell? ⟨b',0,none⟩=some u0∧w1.cell? ⟨b',1,none⟩=some u1∧w1.cell? ⟨b',2,none⟩=some u2 :=
 have k:=Qau O T ⟨h.1,h.2.1,h.2.2.1⟩;have I:=Qau O U ⟨h.2.2.2.1,h.2.2.2.2.1,h.2.2.2.2.2⟩
 ⟨k.1,k.2.1,k.2.2,I.1,I.2.1,I.2.2⟩
end
end Go.Proofs
