/- The program's arithmetic of digits and the shape of a description. -/
import Derived.Deep.DeepCutAuto
import Derived.Deep.Onto
import Derived.Laws.CopyOwn
import Derived.Test.YtogfekjbpcfgmaaGreatZtkRF
set_option maxRecDepth 100000
set_option maxHeartbeats 16000000
set_option linter.unusedVariables false
namespace Go.Proofs
open Go.RowKit Cw
section
theorem Qkc (x p n:Nat)(w:World)(hp:1≤p)(X:p≤256)(Y:n≤8)(T:x≤65536) :
  Calls Tryz.prog 198 #[.int .i64 x,.int .i64 p,.int .i64 n] w (Qcj w.heap.size (lst n (dgi p x)) w):=by
 have aa:=QaC n (by omega);go_enter Tryz.func198,Tryz.ntmps198;go_wp2;go_loopw [0,8,13] (fun y _ i wr=>∃k z:Nat,k≤n∧z≤65536∧i=.int .i64 k∧y=.int .i64 z∧Hid (z=x / p ^ k)∧IB wr w.heap.size (upd n k (dgi p x))∧Below w.heap.size w wr) (fun _ _ i _=>n - (intOf i).toNat)
 case atStart=>exact⟨0,x,by omega,T,rfl,rfl,by simp[Hid],by rw[QaP];exact IB.newz _ _,β⟩
 case round =>
  obtain⟨k,z,hk,hz,rfl,rfl,J,I,O⟩:=hrel;by_cases V:k<n
  ·have hc:=I.cell (i:=k) (by rw[Qaz];exact V);have hf:=I.frozen k;have U:=η (I.set_ k (dgi p x k));clear I;have ad:(0:Int)≤(z:Int) / (p:Int):=Int.ediv_nonneg (by omega) (by omega);have ae:(z:Int) / (p:Int)≤65536:=Int.le_trans (Int.ediv_le_self _ (by omega)) (by omega);go_wp2;go_roundw
   case rel =>
    refine⟨k+1,z / p,by omega,τ (Nat.div_le_self _ _) hz,by go_num,by go_num,?_,?_,O.setCell ρ _⟩
    ·show z / p=x / p ^ (k+1)
     rw[J.out,Nat.pow_succ,Nat.div_div_eq_div_mul]
    ·have h:=U.out;rw[QaY]at h;have e:dgi p x k=(z:Int) % (p:Int):=by rw[J.out];rfl
     rw[e]at h;exact h
   case measure=>simp[intOf];omega
  ·go_wp2;go_ret;obtain rfl:k=n:=by omega
   rw[QaR]at I;exact⟨w.heap.size,by simp[Qab],Nat.le_refl _,I,O⟩
theorem Qhh (p m:Nat)(f:Nat→Nat)(A:Option Addr)(c:Nat)(w:World)(hp:1≤p)(V:p≤256)(hm:m≤8)(I:∀i,i<m→f i<p)(X:p ^ m≤256)
  (J:Rd w w.heap.size A (lst m fun i=>(f i:Int))) :
  Calls Tryz.prog 199 #[.slice A m c,.int .i64 p] w fun e w'=>e=.returned (.int .i64 (Qds p f m:Nat))∧w=w':=by
 go_enter Tryz.func199,Tryz.ntmps199;go_wp2;go_loop [5,6] (fun x i=>∃t j y:Nat,t≤m∧y≤256∧i=.int .i64 ((t:Int) - 1)∧x=.int .i64 y∧Hid (t+j=m)∧Hid (y=hval p f m j)) (fun _ i=>(intOf i+1).toNat)
 case atStart=>exact⟨m,0,0,by omega,by omega,by simp,rfl,by simp[Hid],rfl⟩
 case round =>
  obtain⟨t,j,y,ht,hy,rfl,rfl,T,U⟩:=hrel
  cases t with
  |zero =>
   go_wp2;go_ret;obtain rfl:j=m:=by have:=T.out;omega
   exact⟨Qa2 (by rw[U.out,Qj8]),rfl⟩
  |succ t =>
   rw[show ((t+1:Nat):Int) - 1=(t:Int) by omega];obtain⟨b,ai,rfl,hb,ab⟩:=J.at_ (k:=t) (by rw[Qab];omega);rw[Qas _ (by omega)]at ab;have ad:=I t (by omega);have Y:(0:Int)≤(y:Int)*(p:Int)∧(y:Int)*(p:Int)≤65536:=by
    have h1:=Nat.mul_le_mul hy V;have h2:((y*p:Nat):Int)=(y:Int)*(p:Int):=by simp
    omega
   obtain⟨ak,al⟩:=Y;clear J;go_wp2;go_round
   case rel =>
    have ag:t+j+1=m:=by have:=T.out;omega
    have O:y*p+f t=hval p f m (j+1):=by
     show y*p+f t=hval p f m j*p+f (m - 1 - j)
     rw[U.out,show m - 1 - j=t by omega]
    exact⟨t,j+1,y*p+f t,by omega,by rw[O];exact Qo8 I X (by omega),by go_num,by go_num,by unfold Hid;omega,O⟩
   case measure=>simp[intOf]
theorem QfE (P M:Int)(w:World)(X:P≤9223372036854775807)(Y:M≤9223372036854775807) :
  Calls Tryz.prog 87 #[.int .i64 P,.int .i64 M] w fun e w'=>e=.returned (.int .i64 (qOf P M:Nat))∧w=w':=by
 by_cases ad:P<2∨256<P∨M<1∨8<M
 ·have I:qOf P M=0:=by
   unfold qOf;by_cases h:P<2∨M<1∨8<M
   ·rw[if_pos (by omega)]
   ·rw[if_pos];right;right;right;have J:=Nat.pow_le_pow_right (n:=P.toNat) (by omega) (show 1≤M.toNat by omega);rw[Nat.pow_one]at J;omega
  rw[I];clear I;go_enter Tryz.func87,Tryz.ntmps87;go_wp2
  all_goals (go_ret;exact⟨rfl,rfl⟩)
 ·obtain⟨J,h2,h3,T⟩:2≤P∧1≤M∧M≤8∧P≤256:=by omega
  obtain⟨p,rfl⟩:=Int.eq_ofNat_of_zero_le (show 0≤P by omega);obtain⟨m,rfl⟩:=Int.eq_ofNat_of_zero_le (show 0≤M by omega);replace J:2≤p:=by omega
  replace h2:1≤m:=by omega
  replace h3:m≤8:=by omega
  replace T:p≤256:=by omega
  clear ad Y X;go_enter Tryz.func87,Tryz.ntmps87;go_wp2;go_loop [5,21] (fun q i=>∃k z:Nat,k≤m∧z≤256∧i=.int .i64 k∧q=.int .i64 z∧Hid (z=p ^ k)) (fun _ i=>m - (intOf i).toNat)
  case atStart=>exact⟨0,1,by omega,by omega,rfl,rfl,by simp[Hid]⟩
  case round =>
   obtain⟨k,z,hk,hz,rfl,rfl,O⟩:=hrel;by_cases ai:k<m
   ·have ae:=Nat.mul_le_mul hz T;have U:((z*p:Nat):Int)=(z:Int)*(p:Int):=by simp
    have af:(0:Int)≤(z:Int)*(p:Int):=by omega
    have ag:(z:Int)*(p:Int)≤65536:=by omega
    have V:Hid (z*p=p ^ (k+1)):=by unfold Hid;rw[O.out,Nat.pow_succ]
    by_cases hd:256<z*p
    ·have hb:(256:Int)<(z:Int)*(p:Int):=by omega
     have I:Hid (qOf p m=0):=by
      unfold Hid qOf;rw[if_pos];simp only[Int.toNat_natCast];have:=Nat.pow_le_pow_right (n:=p) (by omega) (show k+1≤m by omega);have:=V.out;omega
     clear U;go_wp2;go_ret;exact⟨Qa2 (by rw[I.out];rfl),rfl⟩
    ·have hb:(z:Int)*(p:Int)≤256:=by omega
     clear U;go_wp2;go_round
     case rel=>exact⟨k+1,z*p,by omega,by omega,by go_num,by go_num,V⟩
     case measure=>simp[intOf];omega
   ·obtain rfl:k=m:=by omega
    have I:Hid (qOf p k=z):=by
     unfold Hid qOf;rw[if_neg,Int.toNat_natCast,Int.toNat_natCast,←O.out];simp only[Int.toNat_natCast];rw[←O.out];omega
    go_wp2;go_ret;exact⟨Qa2 (by rw[I.out]),rfl⟩
theorem Qnj {n k:Nat} (Y:2≤n)(h:QcX n k=true)(hk:n<(k+2)*(k+2)):QcX n (n - 2)=true:=by
 rw[Qj9]at h ⊢;intro d V hd J;by_cases X:d<k+2
 ·exact h d V X J
 ·obtain⟨e,U⟩:=Nat.dvd_of_mod_eq_zero J;have O:2≤e:=by
   rcases Nat.lt_or_ge e 2 with I |I
   ·have:e=0∨e=1:=by omega
    rcases this with rfl |rfl
    ·omega
    ·omega
   ·exact I
  have T:e<k+2:=by
   rcases Nat.lt_or_ge e (k+2) with I |I
   ·exact I
   ·have:=Nat.mul_le_mul (show k+2≤d by omega) I;omega
  exact h e O T (by rw[U,Nat.mul_comm];exact Nat.mul_mod_right _ _)
theorem Qlg (n:Nat)(w:World)(h2:2≤n)(hn:n≤256) :
  Calls Tryz.prog 147 #[.int .i64 n] w fun e w'=>e=.returned (.bool (QcX n (n-2)))∧w=w':=by
 go_enter Tryz.func147,Tryz.ntmps147;go_wp2;go_loop [3] (fun d=>∃k:Nat,k≤15∧d=.int .i64 ((k:Int)+2)∧Hid (QcX n k=true)) (fun d=>300 - (intOf d).toNat)
 case atStart=>exact⟨0,by omega,rfl,rfl⟩
 case round =>
  obtain⟨k,hk,rfl,hp⟩:=hrel;have O:=η (QeN n k);have ae:((k:Int)+2)*((k:Int)+2)≤65536:=by
   have h1:=Nat.mul_le_mul (show k+2≤17 by omega) (show k+2≤17 by omega);have T:(((k+2)*(k+2):Nat):Int)=((k:Int)+2)*((k:Int)+2):=by simp
   omega
  have ag:0≤((k:Int)+2)*((k:Int)+2):=Int.mul_nonneg (by omega) (by omega);have U:(((k+2)*(k+2):Nat):Int)=((k:Int)+2)*((k:Int)+2):=by simp
  by_cases Y:(k+2)*(k+2)≤n
  ·have V:((k:Int)+2)*((k:Int)+2)≤(n:Int):=by omega
   have ah:k+2<n:=by
    have:=Nat.mul_le_mul (show 2≤k+2 by omega) (Nat.le_refl (k+2));omega
   have ai:k≤14:=by
    rcases Nat.lt_or_ge k 15 with h |h
    ·omega
    ·have:=Nat.mul_le_mul (show 17≤k+2 by omega) (show 17≤k+2 by omega);omega
   clear U;by_cases I:n % (k+2)=0
   ·have X:(((n:Int) % ((k:Int)+2))==0)=true:=by
     rw[beq_iff_eq];exact (QfD n (k+2)).trans (by rw[I];rfl)
    have J:Hid (QcX n (n-2)=false):=by
     have T:QcX n (k+1)=false:=by rw[O.out];simp[I]
     unfold Hid
     cases h5:QcX n (n-2) with
     |false=>rfl
     |true =>
      rw[Qir n (k+1) (n-2-(k+1)) (by rw[show k+1+(n-2-(k+1))=n-2 by omega];exact h5)]at T
      cases T
    clear I;go_wp2;go_ret;exact⟨QaB J.out.symm,rfl⟩
   ·have X:(((n:Int) % ((k:Int)+2))==0)=false:=by
     rw[beq_eq_false_iff_ne];intro e;have h9:=(QfD n (k+2)).symm.trans e;exact I (Int.ofNat.inj h9)
    have J:Hid (QcX n (k+1)=true):=by unfold Hid;rw[O.out,hp.out];simpa using I
    clear I;go_wp2;go_round
    case rel=>exact⟨k+1,by omega,by go_num,J⟩
    case measure=>simp[intOf];omega
  ·have V:(n:Int)<((k:Int)+2)*((k:Int)+2):=by omega
   have J:=η (Qnj h2 hp.out (Nat.lt_of_not_le Y));have X:decide (((k:Int)+2)*((k:Int)+2)≤(n:Int))=false:=decide_eq_false (by omega);clear U Y V O hp;go_wp2;go_ret;exact⟨QaB (by rw[J.out];exact decide_eq_true (by omega)),rfl⟩
def Qem (P M:Int)(ml:List Int):Prop:=∃D:Desc,P=D.p∧M=D.m∧ml=Qan D
theorem Qd8 {n:Nat} (O:2≤n):QcX n (n - 2)=true↔Qg3 n:=by
 rw[Qj9];constructor
 ·intro h;refine⟨O,fun d I=>?_⟩;have X:=Nat.le_of_dvd (by omega) I;have Y:=Nat.pos_of_dvd_of_pos I (by omega);by_cases V:d=1
  ·exact .inl V
  by_cases J:d=n
  ·exact .inr J
  exact absurd (Nat.mod_eq_zero_of_dvd I) (h d (by omega) (by omega))
 ·intro h d J h4 T;rcases h.2 d (Nat.dvd_of_mod_eq_zero T) with U |U <;> omega
theorem Qem.mk' {p m:Nat} {ml:List Int} (hp:Qg3 p)(J:1≤m)(U:m≤8)(V:p ^ m≤256)(X:ml.length=if m=1 then 0 else m)(T:∀j,j<ml.length→0≤ml[j]?.getD 0∧ml[j]?.getD 0<p):Qem p m ml:=by
 have Y:(ml.map Int.toNat).length=ml.length:=by simp
 refine⟨⟨p,m,ml.map Int.toNat,hp,J,U,V,by rw[Y,X],fun j=>?_⟩,rfl,rfl,?_⟩
 ·by_cases O:j<ml.length
  ·have h:=T j O;have I:(ml.map Int.toNat).getD j 0=(ml[j]?.getD 0).toNat:=by simp[O]
   rw[I];omega
  ·have I:(ml.map Int.toNat).getD j 0=0:=by simp[Nat.le_of_not_lt O]
   rw[I];have:=hp.1;omega
 ·unfold Qan;apply List.ext_getElem
  ·simp
  ·intro i J h2;have h:=(T i J).1;have I:ml[i]?.getD 0=ml[i]:=by simp[J]
   rw[I]at h;simp;omega
theorem Qi7 (D:Desc)(j:Nat):0≤(Qan D)[j]?.getD 0∧(Qan D)[j]?.getD 0<D.p:=by
 by_cases h:j<D.mod.length
 ·rw[QeO D h];have:=D.hmod j;omega
 ·have:(Qan D)[j]?=none:=List.getElem?_eq_none (by rw[Qaf];omega);rw[this];have:=D.p2;simp;omega
end
section
open Classical in
noncomputable def Qpa (P M:Int)(ml:List Int):Bool:=decide (Qem P M ml)
open Classical in
theorem Qdc {P M:Int} {ml:List Int} (h:Qem P M ml):Qpa P M ml=true:=decide_eq_true h
open Classical in
theorem QbO {P M:Int} {ml:List Int} (h:¬ Qem P M ml):Qpa P M ml=false:=decide_eq_false h
open Classical in
theorem Qem.q {P M:Int} {ml:List Int} (h:Qem P M ml):qOf P M≠0:=by
 obtain⟨D,rfl,rfl,rfl⟩:=h;rw[Qi6];have:=D.q2;omega
theorem Qpb {P M:Int} (h:qOf P M≠0):∃p m:Nat,P=p∧M=m∧2≤p∧p≤256∧1≤m∧m≤8∧p ^ m≤256∧qOf P M=p ^ m:=by
 unfold qOf at h ⊢;by_cases I:P<2∨M<1∨8<M∨256<P.toNat ^ M.toNat
 ·rw[if_pos I]at h;exact absurd rfl h
 ·rw[if_neg I];obtain⟨p,rfl⟩:=Int.eq_ofNat_of_zero_le (show 0≤P by omega);obtain⟨m,rfl⟩:=Int.eq_ofNat_of_zero_le (show 0≤M by omega);simp only[Int.toNat_natCast]at I ⊢;have J:=Nat.pow_le_pow_right (n:=p) (by omega) (show 1≤m by omega);rw[Nat.pow_one]at J;exact⟨p,m,rfl,rfl,by omega,by omega,by omega,by omega,by omega,rfl⟩
theorem Qez (P M:Int)(ml:List Int)(A:Option Addr)(c:Nat)(w:World)(hP:P≤9223372036854775807)(hM:M≤9223372036854775807)(_hl:ml.length≤maxLen)
  (hr:Rd w w.heap.size A ml) :
  Calls Tryz.prog 86 #[.agg #[.int .i64 P,.int .i64 M,.slice A ml.length c]] w fun e w'=>e=.returned (.bool (Qpa P M ml))∧Below w.heap.size w w':=by
 unfold maxLen at _hl;have U:=fun w=>η (QfE P M w hP hM)
 by_cases V:qOf P M=0
 ·have I:=η (QbO (P:=P) (M:=M) (ml:=ml) fun h=>h.q V);have V:=η V;go_enter Tryz.func86,Tryz.ntmps86;go_wp2_with (go_at_call 87;refine (U _).out.mono ?_;rw[V.out];rintro e w1 ⟨rfl,rfl⟩);go_ret;exact⟨QaB I.out.symm,β⟩
 ·have aA:((((qOf P M:Nat):Int))==0)=false:=by rw[beq_eq_false_iff_ne];omega
  obtain⟨p,m,rfl,rfl,ad,au,ah,ai,aj,av⟩:=Qpb V;clear av V;generalize qOf p m=q at *;have X:=fun w=>η (Qlg p w ad au)
  by_cases J:QcX p (p - 2)=true
  ·have ag:=(Qd8 ad).1 J;have J:=η J;by_cases hm:m=1
   ·subst hm;by_cases ac:ml.length=0
    ·have I:=η (Qdc (Qem.mk' (ml:=ml) ag ah ai aj (by simpa using ac) (fun j hj=>by omega)));have ao:((ml.length:Int)==0)=true:=by rw[beq_iff_eq];omega
     clear ac;go_enter Tryz.func86,Tryz.ntmps86;go_wp2_with (first |(go_at_call 87;refine (U _).out.mono ?_;rintro e w1 ⟨rfl,rfl⟩) |(go_at_call 147;refine (X _).out.mono ?_;rw[J.out];rintro e w1 ⟨rfl,rfl⟩));go_ret;exact⟨QaB I.out.symm,β⟩
    ·have I:=η (QbO (P:=p) (M:=(1:Nat)) (ml:=ml) fun⟨D,_,h2,T⟩=>ac (by rw[T,Qaf,D.hlen,if_pos (by omega)]));have ao:((ml.length:Int)==0)=false:=by rw[beq_eq_false_iff_ne];omega
     clear ac;go_enter Tryz.func86,Tryz.ntmps86;go_wp2_with (first |(go_at_call 87;refine (U _).out.mono ?_;rintro e w1 ⟨rfl,rfl⟩) |(go_at_call 147;refine (X _).out.mono ?_;rw[J.out];rintro e w1 ⟨rfl,rfl⟩));go_ret;exact⟨QaB I.out.symm,β⟩
   ·have aB:((m:Int)==1)=false:=by rw[beq_eq_false_iff_ne];omega
    by_cases aa:ml.length=m
    ·have ap:((ml.length:Int) !=(m:Int))=false:=by simp[aa]
     have aC:m≤ml.length:=by omega
     have aD:ml.length≤m:=by omega
     have aq:=η aa;clear aa;go_enter Tryz.func86,Tryz.ntmps86;go_wp2_with (first |(go_at_call 87;refine (U _).out.mono ?_;rintro e w1 ⟨rfl,rfl⟩) |(go_at_call 147;refine (X _).out.mono ?_;rw[J.out];rintro e w1 ⟨rfl,rfl⟩));go_loop [33,4] (fun i _=>∃k:Nat,k≤ml.length∧i=.int .i64 k∧Hid (∀j,j<k→0≤ml[j]?.getD 0∧ml[j]?.getD 0<p)) (fun i _=>ml.length - (intOf i).toNat)
     case atStart=>exact⟨0,by omega,rfl,fun j hj=>by omega⟩
     case round =>
      obtain⟨k,hk,rfl,ae⟩:=hrel;by_cases az:k<ml.length
      ·obtain⟨b,ak,rfl,hb,Y⟩:=hr.at_ az;obtain⟨x,O⟩:=ε (ml[k]?.getD 0);rw[←O]at Y;have aE:=(((Below.refl w.heap.size w).alloc ρ (.cells #[.int .i64 p,.int .i64 m,.slice (some ⟨b,ak,none⟩) ml.length c] 24)).cell (p:=⟨b,ak+k,none⟩) hb).trans Y;by_cases aG:x<0
       ·have I:=η (QbO (P:=p) (M:=m) (ml:=ml) fun⟨D,_,_,T⟩=>by have:=(Qi7 D k).1;rw[←T,←O]at this;omega);clear O Y hr;go_wp2_with fail;go_ret;exact⟨QaB I.out.symm,β⟩
       ·by_cases aH:x<p
        ·have ar:Hid (∀j,j<k+1→0≤ml[j]?.getD 0∧ml[j]?.getD 0<p):=fun j hj=>by
          by_cases e:j=k
          ·subst e;rw[←O];omega
          ·exact ae.out j (by omega)
         clear O Y hr ae;go_wp2_with fail;go_round
         case rel=>exact⟨k+1,by omega,by go_num,ar⟩
         case measure=>simp[intOf];omega
        ·have I:=η (QbO (P:=p) (M:=m) (ml:=ml) fun⟨D,h1,_,T⟩=>by have:=(Qi7 D k).2;rw[←T,←O]at this;omega);clear O Y hr;go_wp2_with fail;go_ret;exact⟨QaB I.out.symm,β⟩
      ·have I:=η (Qdc (Qem.mk' (ml:=ml) ag ah ai aj (by rw[if_neg hm];exact aq.out) (fun j hj=>ae.out j (by omega))));go_wp2_with fail;go_ret;exact⟨QaB I.out.symm,β⟩
    ·have ap:((ml.length:Int) !=(m:Int))=true:=by rw[bne_iff_ne];omega
     have I:=η (QbO (P:=p) (M:=m) (ml:=ml) fun⟨D,_,h2,T⟩=>aa (by rw[T,Qaf,D.hlen,if_neg (by omega)];omega));clear aa;go_enter Tryz.func86,Tryz.ntmps86;go_wp2_with (first |(go_at_call 87;refine (U _).out.mono ?_;rintro e w1 ⟨rfl,rfl⟩) |(go_at_call 147;refine (X _).out.mono ?_;rw[J.out];rintro e w1 ⟨rfl,rfl⟩));go_ret;exact⟨QaB I.out.symm,β⟩
  ·have I:=η (QbO (P:=p) (M:=m) (ml:=ml) fun⟨D,h1,_,_⟩=>J ((Qd8 ad).2 (by rw[show p=D.p by omega];exact D.hp)));have J:Hid (QcX p (p - 2)=false):=by unfold Hid;simpa using J
   go_enter Tryz.func86,Tryz.ntmps86;go_wp2_with (first |(go_at_call 87;refine (U _).out.mono ?_;rintro e w1 ⟨rfl,rfl⟩) |(go_at_call 147;refine (X _).out.mono ?_;rw[J.out];rintro e w1 ⟨rfl,rfl⟩));go_ret;exact⟨QaB I.out.symm,β⟩
end
section
theorem Qd9 (D:Desc)(u:R D)(w:World):Calls Tryz.prog 198 #[.int .i64 (ci u),.int .i64 D.p,.int .i64 D.m] w fun e w' =>
  ∃g,e=.returned (.slice (some ⟨g,0,none⟩) D.m D.m)∧w.heap.size≤g∧IB w' g (dl u)∧Below w.heap.size w w':=by
 have V:=D.p2;have X:=D.p256;have Y:=D.m8;have I:=QqW u;have hy:=QiW u;have h:=Qkc (QaA u) D.p D.m w (by omega) (by omega) (by omega) (by have:=QaM u;have:=D.q256;omega);rw[show lst D.m (dgi D.p (QaA u))=dl u from Qay fun i U=>by unfold dgi;rw[Qd4 _ U]]at h;refine h.mono ?_;rintro e w' ⟨g,rfl,J,O,T⟩;have I:(dl u).length=D.m:=Qab _ _;rw[I];exact⟨g,rfl,J,O,T⟩
def hstep {D:Desc} (h u:R D)(b:Nat):R D:=T h+sc (zp D.p b)*u
theorem Qq9 {D:Desc} (h u:R D)(b:Nat){j:Nat} (I:j<D.m) :
  di (hstep h u b) j=((if j=0 then 0 else di h (j - 1))+(D.p - di h (D.m - 1))*D.mod.getD j 0+b*di u j) % D.p:=by
 have J:=Qd3 h (D.m - 1);rw[←Qdq (p:=D.p)];unfold di hstep
 congr 1
 show (T h).v j+(sc (zp D.p b)*u).v j=_
 rw[QcV _ _ I,T_v I,QjV,QjV,QjW,QjW,QoD (Nat.le_of_lt (Zp.lt _)),Qfw,Qfw]
 congr 1
 rw[QbV,Qbb]
 congr 1
 by_cases e:j=0
 ·rw[if_pos e,if_pos e];rfl
 ·rw[if_neg e,if_neg e,Qfw]
def hor {D:Desc} (u v:R D):Nat→R D
 |0=>0
 |k+1=>hstep (hor u v k) u (di v (D.m - 1 - k))
theorem QsU {D:Desc} (u v:R D):∀k,k≤D.m→hor u v k*pw (Xc D) (D.m - k)+u*ev D (di v) (D.m - k)=u*v
 |0,_=>by rw[Nat.sub_zero,Qfy];show 0*_+_=_;rw[Qah,Qai]
 |k+1,hk=>by
  have I:=QsU u v k (by omega);obtain⟨t,J⟩:∃t,D.m - k=t+1:=⟨D.m - k - 1,by omega⟩;rw[J,Qd5,Qbi]at I;rw[show D.m - (k+1)=t by omega,←I]
  show (T (hor u v k)+sc (zp D.p (di v (D.m - 1 - k)))*u)*pw (Xc D) t+_=_
  rw[show D.m - 1 - k=t by omega,Qvg,Qbw,QaQ]
  show hor u v k*Xc D*pw (Xc D) t+_+_=_
  ac_rfl
theorem Qra {D:Desc} (u v:R D):hor u v D.m=u*v:=by
 have h:=QsU u v D.m ρ;rw[Nat.sub_self,QbK,Qax]at h
 show hor u v D.m=u*v
 rw[←h]
 show _=_+u*Qat 0 _
 rw[QaG,Qac,Qad]
structure Qme (D:Desc) (u v:R D) (A:Option Addr) (n c g1 g2 g3:Nat) (w:World) (l:List Int) (wr:World):Prop where
 i1:IB wr g1 (dl u)
 i2:IB wr g2 (dl v)
 i3:IB wr g3 l
 bw:Below w.heap.size w wr
 bx:wr.cell? ⟨w.heap.size,0,none⟩=some (.int .i64 D.p)∧wr.cell? ⟨w.heap.size,1,none⟩=some (.int .i64 D.m)∧wr.cell? ⟨w.heap.size,2,none⟩=some (.slice A n c)
theorem Qme.set_ {D:Desc} {u v:R D} {A:Option Addr} {n c J O I:Nat} {w wr:World} {l:List Int} (h:Qme D u v A n c J O I w l wr)
  (T:w.heap.size<J) (U:J<O) (V:O<I) (k:Nat) (z:Int):Qme D u v A n c J O I w (l.set k z) (wr.setCell ⟨I,k,none⟩ (.int .i64 z)) where
 i1:=h.i1.far (p:=⟨I,k,none⟩) (by show J≠I;omega) _
 i2:=h.i2.far (p:=⟨I,k,none⟩) (by show O≠I;omega) _
 i3:=h.i3.set_ k z
 bw:=h.bw.setCell (p:=⟨I,k,none⟩) (by show w.heap.size≤I;omega) _
 bx:=Qau (B:=w.heap.size+1) (κ.setCell (p:=⟨I,k,none⟩) (by show w.heap.size+1≤I;omega) _) (by omega) h.bx
theorem Qme.drew {D:Desc} {u v:R D} {A:Option Addr} {n c I J O:Nat} {w wr:World} {l:List Int} (h:Qme D u v A n c I J O w l wr):Qme D u v A n c I J O w l wr.drew :=
 ⟨h.i1,h.i2,h.i3,h.bw.drew,h.bx⟩
theorem Qpc:(Tryz.prog.info? 3).map (·.size)=some 1:=by kernel_rfl
theorem Qrb {D:Desc} (h:R D):(((dl h).take (D.m - 1)).map (Value.int .i64)).length=Nat.min (D.m - 1) (D.m - 1):=by
 rw[List.length_map,List.length_take,show (dl h).length=D.m from Qab _ _]
 show min (D.m - 1) D.m=min (D.m - 1) (D.m - 1)
 omega
theorem Qrc {D:Desc} (h:R D):1+(((dl h).take (D.m - 1)).map (Value.int .i64)).length≤((dl h).map (Value.int .i64)).length:=by
 have:=D.m1;rw[List.length_map,List.length_take,List.length_map,show (dl h).length=D.m from Qab _ _];omega
theorem Qrd {D:Desc} (h:R D){w:World} {g:Nat} (V:IB w g (dl h)):0<(((dl h).take (D.m - 1)).map (Value.int .i64)).length →
  some (⟨g,1,none⟩:Addr)=some ⟨g,1,none⟩∧∃T,some (⟨g,0,none⟩:Addr)=some T∧∀j v,(((dl h).take (D.m - 1)).map (Value.int .i64))[j]?=some v→w.cell? (T.add j)=some v:=fun _=>by
 refine⟨rfl,_,rfl,fun j v I=>?_⟩;rw[List.getElem?_map,List.getElem?_take]at I;by_cases U:j<D.m - 1
 ·rw[if_pos U]at I;have J:j<(dl h).length:=by rw[show (dl h).length=D.m from Qab _ _];omega
  have O:=V.cell J;rw[List.getElem?_eq_getElem J]at I O;have X:Value.int .i64 ((dl h)[j])=v:=by simpa using I
  rw[←X];have e:(⟨g,0,none⟩:Addr).add j=⟨g,j,none⟩:=by unfold Addr.add;split <;> simp_all
  rw[e,O];rfl
 ·rw[if_neg U]at I;simp at I
theorem Qlh {D:Desc} (h:R D):splice ((dl h).map (Value.int .i64)) 1 (((dl h).take (D.m - 1)).map (Value.int .i64)) =
  (lst D.m fun j=>if j=0 then (di h 0:Nat) else (di h (j - 1):Nat)).map (Value.int .i64):=by
 have I:=D.m1;unfold splice dl;rw[Qdp _ (by omega),←List.map_take,←List.map_drop,←List.map_append,←List.map_append]
 congr 1
 apply List.ext_getElem
 ·simp[lst];omega
 ·intro i Y O;have T:i<D.m:=by simpa [lst] using O
  simp only[lst,List.getElem_append,List.getElem_map,List.getElem_range,List.length_take,List.length_map,List.length_range,List.getElem_take,List.getElem_drop];by_cases e:i=0
  ·subst e;simp[I]
  ·rw[if_neg e];have U:i - min 1 D.m<D.m - 1:=by omega
   have J:min 1 D.m=1:=by omega
   have V:i<min 1 D.m+(D.m - 1):=by omega
   have X:¬ i<min 1 D.m:=by omega
   simp only[J];rw[dif_neg (by omega),dif_pos (by omega)]
theorem Qme.copied {D:Desc} {u v:R D} {A:Option Addr} {n c J O I:Nat} {w wr w':World} {l l':List Int} (h:Qme D u v A n c J O I w l wr)
  (X:w.heap.size<J) (Y:J<O) (U:O<I) (T:Below I wr w') (V:IB w' I l'):Qme D u v A n c J O I w l' w' where
 i1:=h.i1.below T (by omega)
 i2:=h.i2.below T U
 i3:=V
 bw:=h.bw.trans (T.mono (by omega))
 bx:=Qau T (by omega) h.bx
theorem Qkd (D:Desc)(hm:2≤D.m)(u v:R D)(A:Option Addr)(c:Nat)(w:World)(hr:Rd w w.heap.size A (Qan D)) :
  Calls Tryz.prog 149 #[.agg #[.int .i64 D.p,.int .i64 D.m,.slice A D.mod.length c],.int .i64 (ci u),.int .i64 (ci v)] w fun e w' =>
   e=.returned (.int .i64 (ci (u*v)))∧Below w.heap.size w w':=by
 have bz:=D.p2;have ae:=D.p256;have aU:=D.m8;have aV:D.mod.length=D.m:=by have:=D.hlen;rw[if_neg (by omega)]at this;exact this
 have bA:D.mod.length≤D.m:=by omega
 have bB:D.m≤D.mod.length:=by omega
 clear aV;have aF:=fun w=>η (Qd9 D u w)
 have aW:=fun w=>η (Qd9 D v w)
 have aX:=QaC D.m (by omega);have k0:=η (Qb9 w (.int .i64 D.p) (.int .i64 D.m) (.slice A D.mod.length c) 24);have aG:(dl u).length=D.m:=Qab _ _;have aH:(dl v).length=D.m:=Qab _ _;have aY:=η aG;have aZ:=η aH;clear aG aH;go_enter Tryz.func149,Tryz.ntmps149;go_wp2_with fail;go_region_held3 (fun w'=>w'.cell? ⟨w.heap.size,0,none⟩=some (.int .i64 D.p)∧w'.cell? ⟨w.heap.size,1,none⟩=some (.int .i64 D.m)∧w'.cell? ⟨w.heap.size,2,none⟩=some (.slice A D.mod.length c)) (first |exact k0.out |exact k1.out |exact k2.out)
  (first
   |(go_at_call 198;refine (aF _).out.mono ?_;clear aF;rintro e w1 ⟨X,rfl,bt,aD,au⟩;have k1:=η (Qau (b:=w.heap.size) au (by simp) k0.out);have a0:=au.size;simp only[World.drew,World.size_alloc]at a0 bt)
   |(go_at_call 198;refine (aW _).out.mono ?_;rintro e V ⟨Y,rfl,bV,aE,ai⟩;have k2:=η (Qau (b:=w.heap.size) ai (by omega) k1.out)))
 have bC:=ai.size;have bD:=aD.lt;have a1:=aE.lt;have aI:=aD.below ai (by omega);have aJ:Below w.heap.size w V:=(((β).drew).trans (au.mono (by simp))).trans (ai.mono (by omega));have aw:w.heap.size<X:=by omega
 have ax:X<Y:=by omega
 have a2:Hid (Qme D u v A D.mod.length c X Y V.heap.size w (dl (hor u v 0)) (V.alloc (.cells (Array.replicate D.m (Value.int .i64 0)) 3))) :=
  ⟨aI.alloc _,aE.alloc _,by
   have:=IB.newz V D.m;rw[Qd2]at this;have e:dl (hor u v 0)=lst D.m fun _=>0:=Qay fun i hi=>rfl
   rw[e];exact this,aJ.alloc (by omega) _,Qau (B:=V.heap.size) (β) (by omega) k2.out⟩
 have ay:Y<V.heap.size:=a1;have kc:=k2.out;obtain⟨ab,ac,ad⟩:=kc;have bE:w.heap.size<V.heap.size:=by omega
 clear aD au ai k1 k0 aE aI aJ;go_wp2_with fail;clear ab ac ad k2 aX;generalize V.heap.size=U at *;go_loopw [10,11,12,13,54] (fun i _ _ _ _ wr=>∃t k:Nat,t≤D.m∧i=.int .i64 ((t:Int) - 1)∧Hid (t+k=D.m)∧Hid (Qme D u v A D.mod.length c X Y U w (dl (hor u v k)) wr)) (fun i _ _ _ _ _=>(intOf i+1).toNat)
 case atStart=>exact⟨D.m,0,by omega,rfl,by simp[Hid],a2⟩
 case round =>
  obtain⟨t,k,ht,rfl,ap,O⟩:=hrel;obtain⟨ab,ac,ad⟩:=O.out.bx
  cases t with
  |zero =>
   have aK:Hid (hor u v k=u*v):=by
    have:k=D.m:=by have:=ap.out;omega
    unfold Hid;rw[this,Qra]
   have hV:=η (Qhh D.p D.m (di (u*v)) (some ⟨U,0,none⟩) D.m wr (by omega) ae aU (fun i _=>Qd3 _ i) D.hq
    (by have h4:=O.out.i3.rd;rw[aK.out]at h4;exact h4))
   have a5:=O.out.bw;clear O aK ap;go_wp2_with fail;refine hV.out.mono ?_;rintro e w4 ⟨rfl,rfl⟩;go_wp2_with fail;go_ret;exact⟨rfl,a5⟩
  |succ s =>
   rw[show ((s+1:Nat):Int) - 1=(s:Int) by omega];obtain⟨h,hh⟩:=ε (hor u v k);rw[←hh]at O;replace hh:=η hh;have aM:s<D.m:=by omega
   obtain⟨I,af⟩:=ε (di h (D.m - 1));have aN:I<D.p:=by rw[af];exact Qd3 _ _
   obtain⟨J,ag⟩:=ε (di v s);have a6:J<D.p:=by rw[ag];exact Qd3 _ _
   have az:=O.out.i3.cell (i:=D.m - 1) (by rw[show (dl h).length=D.m from Qab _ _];omega);unfold dl at az;rw[Qas _ (by omega),←af]at az;replace af:=η af;replace ag:=η ag;have a7:D.m - 1<D.m:=by omega
   go_wp2_with fail;have bF:(1:Int)≤(D.m:Int):=by omega
   have bG:(0:Int)≤(D.m:Int) - 1:=by omega
   have bH:(D.m:Int) - 1≤(D.m:Int):=by omega
   have a8:((D.m:Int) - 1).toNat=D.m - 1:=by omega
   have a9:¬ D.m=1:=by omega
   have e1:IntKind.i64.wrap ((D.m:Int) - 1)=(D.m:Int) - 1:=IntWalk.i64_in _ (by omega);go_still_tail 7,(by kernel_rfl);change wpList _ _ _ _ _ wr.drew;clear e1 a8 a9;refine wpList_copy_splice rfl (.tmp 43) (.tmp 48) 22 22 rfl 3 Tryz.underlying22 Qpc (some ⟨U,1,none⟩) (some ⟨U,0,none⟩) (D.m - 1) (D.m - 1) (D.m - 1) D.m rfl rfl U 1 ((dl h).map (Value.int .i64)) 3 O.out.drew.i3
    (((dl h).take (D.m - 1)).map (Value.int .i64)) (Qrb h) (Qrd h O.out.drew.i3) (Qrc h) (by intro x hx;obtain⟨y,_,rfl⟩:=List.mem_map.1 hx;rfl) U wr.drew κ ρ ?_
   intro w4 aR aS;have ah:=η (O.out.drew.copied aw ax ay aS (by have:=aR.out;rw[Qlh]at this;exact this));clear aR aS O ab ac ad az;obtain⟨ab,ac,ad⟩:=ah.out.bx;have hf:=ah.out.i3.frozen 0;have ba:=ah.out.i3.cell (i:=0) (by rw[Qab];omega);have an:=η (ah.out.set_ aw ax ay 0 0);replace an:Hid (Qme D u v A D.mod.length c X Y U w (lst D.m (fun j=>if j=0 then 0 else (di h (j - 1):Nat))) (w4.setCell ⟨U,0,none⟩ (.int .i64 0))):=by
    have h5:=an.out;rw[Qd1]at h5;rw[show (fun j=>if j=0 then (0:Int) else ((di h (j - 1):Nat):Int))=fun j=>if j=0 then (0:Int) else if j=0 then ((di h 0:Nat):Int) else ((di h (j - 1):Nat):Int) from funext fun j=>by by_cases e:j=0 <;> simp[e]];exact h5
   clear ah;have a7:0<D.m:=by omega
   go_wp2_with fail;clear hf ba ab ac ad;have bI:decide ((1:Int)<(D.m:Int))=true:=decide_eq_true (by omega);go_loopw [12,13,54] (fun _ _ i wr=>∃l:Nat,l≤D.m∧i=.int .i64 l∧Hid (Qme D u v A D.mod.length c X Y U w (mix D.m l (fun j=>(di (hstep h u J) j:Nat)) (fun j=>if j=0 then 0 else (di h (j - 1):Nat))) wr)) (fun _ _ i _=>D.m - (intOf i).toNat)
   case atStart=>exact⟨0,by omega,rfl,by rw[Qfv];exact an⟩
   case round =>
    clear an;obtain⟨l,hl,rfl,O⟩:=hrel;obtain⟨ab,ac,ad⟩:=O.out.bx;by_cases aj:l<D.m
    ·obtain⟨z,hz⟩:=ε (if l=0 then 0 else di h (l - 1):Nat)
     have bJ:z<D.p:=by
      rw[hz];by_cases e:l=0
      ·rw[if_pos e];omega
      ·rw[if_neg e];exact Qd3 _ _
     have bb:=O.out.i3.cell (i:=l) (by rw[Qce];exact aj);rw[Qc2 _ _ aj,show (if l=0 then (0:Int) else (di h (l - 1):Nat))=(z:Int) by rw[hz];by_cases e:l=0 <;> simp[e]]at bb;have aB:=O.out.i1.cell (i:=l) (by rw[aY.out];exact aj);unfold dl at aB;rw[Qas _ aj]at aB;have aP:=O.out.i2.cell (i:=s) (by rw[aZ.out];exact aM);unfold dl at aP;rw[Qas _ aM,←ag.out]at aP;have hf:=O.out.i3.frozen l;obtain⟨T,aq⟩:=ε (di u l);rw[←aq]at aB;have bc:T<D.p:=by rw[aq];exact Qd3 _ _
     obtain⟨b,bq,rfl,hb,aC⟩:=hr.at_ (k:=l) (by rw[Qaf];omega);rw[QeO D (by omega)]at aC;have be:=(O.out.bw.cell (p:=⟨b,bq+l,none⟩) hb).trans aC;clear aC;obtain⟨ml,ar⟩:=ε (D.mod.getD l 0);have bf:ml<D.p:=by rw[ar];exact D.hmod l
     rw[←ar]at be;have bK:l<D.mod.length:=by omega
     obtain⟨bR,bS⟩:(0:Int)≤((D.p:Int) - (I:Int))*(ml:Int)∧((D.p:Int) - (I:Int))*(ml:Int)≤65536:=by
      have h1:=Nat.mul_le_mul (τ (Nat.sub_le D.p I) ae) (τ (Nat.le_of_lt bf) ae);have h2:(((D.p - I)*ml:Nat):Int)=((D.p:Int) - (I:Int))*(ml:Int):=by rw[Int.natCast_mul,Int.natCast_sub (Nat.le_of_lt aN)]
      omega
     obtain⟨bT,bU⟩:(0:Int)≤(J:Int)*(T:Int)∧(J:Int)*(T:Int)≤65536:=by
      have h1:=Nat.mul_le_mul (τ (Nat.le_of_lt a6) ae) (τ (Nat.le_of_lt bc) ae);have h2:((J*T:Nat):Int)=(J:Int)*(T:Int):=by simp
      omega
     have aQ:((di (hstep h u J) l:Nat):Int)=((z:Int)+((D.p:Int) - (I:Int))*(ml:Int)+(J:Int)*(T:Int)) % (D.p:Int):=by
      rw[Qq9 _ _ _ aj,←hz,←af.out,←aq,←ar];rw[Int.natCast_emod,Int.natCast_add,Int.natCast_add,Int.natCast_mul,Int.natCast_mul,Int.natCast_sub (Nat.le_of_lt aN)]
     have ao:=(O.out.set_ aw ax ay l ((di (hstep h u J) l:Nat):Int)).drew;rw[Qf0 D.m l (fun j=>((di (hstep h u J) j:Nat):Int)),aQ]at ao;have ao:=η ao;clear O hz aq aQ ar;have bL:(l:Int)<(D.m:Int):=by omega
     have bM:(s:Int)<(D.m:Int):=by omega
     have bi:¬ D.p=0:=by omega
     have bj:0≤((z:Int)+((D.p:Int) - (I:Int))*(ml:Int)+(J:Int)*(T:Int)):=by omega
     have bN:=Int.emod_lt_of_pos ((z:Int)+((D.p:Int) - (I:Int))*(ml:Int)+(J:Int)*(T:Int)) (show (0:Int)<D.p by omega);have bO:=Int.emod_nonneg ((z:Int)+((D.p:Int) - (I:Int))*(ml:Int)+(J:Int)*(T:Int)) (show (D.p:Int)≠0 by omega);have e1:IntKind.i64.wrap ((D.p:Int) - (I:Int))=(D.p:Int) - (I:Int):=IntWalk.i64_in _ (by omega);have e2:IntKind.i64.wrap (((D.p:Int) - (I:Int))*(ml:Int))=((D.p:Int) - (I:Int))*(ml:Int):=IntWalk.i64_in _ (by omega);have e3:IntKind.i64.wrap ((z:Int)+((D.p:Int) - (I:Int))*(ml:Int))=(z:Int)+((D.p:Int) - (I:Int))*(ml:Int):=IntWalk.i64_in _ (by omega);have e4:IntKind.i64.wrap ((J:Int)*(T:Int))=(J:Int)*(T:Int):=IntWalk.i64_in _ (by omega);have e5:IntKind.i64.wrap ((z:Int)+((D.p:Int) - (I:Int))*(ml:Int)+(J:Int)*(T:Int))=((z:Int)+((D.p:Int) - (I:Int))*(ml:Int)+(J:Int)*(T:Int)):=IntWalk.i64_in _ (by omega);have e6:((z:Int)+((D.p:Int) - (I:Int))*(ml:Int)+(J:Int)*(T:Int)).tmod (D.p:Int)=((z:Int)+((D.p:Int) - (I:Int))*(ml:Int)+(J:Int)*(T:Int)) % (D.p:Int):=Int.tmod_eq_emod_of_nonneg bj;go_wp2_with fail;go_still_tail 27,(by kernel_rfl);change wpList _ _ _ _ _ wr.drew;clear e1 e2 e3 e4 e5 e6 bi;go_wp2_with fail;go_roundw
     case rel=>exact⟨l+1,by omega,by go_num,ao⟩
     case measure=>simp[intOf];omega
    ·obtain rfl:l=D.m:=by omega
     go_wp2_with fail;go_roundw
     case rel =>
      refine⟨s,k+1,by omega,by first |rfl |go_num |(congr 1;omega),by have:=ap.out;unfold Hid;omega,?_⟩;have h5:=O.out;rw[QiU]at h5;rw[hh.out,ag.out]at h5
      show Qme D u v A D.mod.length c X Y U w (dl (hstep (hor u v k) u (di v (D.m - 1 - k)))) wr
      rw[show D.m - 1 - k=s by have:=ap.out;omega];exact h5
     case measure=>simp[intOf]
end
section
theorem Qdu (D:Desc)(I:D.m=1)(u:R D):ci u=(di u 0:Nat):=by
 unfold ci QaA;rw[I]
 show ((0+di u 0*D.p ^ 0:Nat):Int)=_
 rw[Nat.pow_zero,Nat.mul_one,Nat.zero_add]
theorem QsV (D:Desc)(I:D.m=1)(u:R D):dl u=[ci u]:=by
 unfold dl;rw[I,Qdu D I];rfl
theorem Qi8 (D:Desc)(I:D.m=1)(u v:R D):ci (u*v)=(ci v*ci u) % (D.p:Int):=by
 rw[Qdu D I,Qdu D I,Qdu D I];have e:di (u*v) 0=(di u 0*di v 0) % D.p:=by
  unfold di;rw[Qtw _ _ (by omega),I,Qaj,QaG,Qai];rfl
 rw[e,Nat.mul_comm,Int.natCast_emod,Int.natCast_mul]
theorem Qgs (D:Desc)(I:D.m=1)(u:R D)(w:World):Calls Tryz.prog 198 #[.int .i64 (ci u),.int .i64 D.p,.int .i64 1] w fun e w' =>
  ∃g,e=.returned (.slice (some ⟨g,0,none⟩) 1 1)∧w.heap.size≤g∧IB w' g [ci u]∧Below w.heap.size w w':=by
 have h:=Qd9 D u w;rw[I,QsV D I]at h;exact h
theorem Qli (D:Desc)(I:D.m=1)(u:R D)(A:Option Addr)(w:World)(J:Rd w w.heap.size A [ci u]) :
  Calls Tryz.prog 199 #[.slice A 1 1,.int .i64 D.p] w fun e w'=>e=.returned (.int .i64 (ci u))∧w=w':=by
 have O:=D.p2;have h:=Qhh D.p D.m (di u) A 1 w (by omega) D.p256 D.m8 (fun i _=>Qd3 _ i) D.hq (by rw[←QsV D I]at J;exact J);rw[show ((Qds D.p (di u) D.m:Nat):Int)=ci u from rfl,I]at h;exact h
structure QtO (D:Desc) (u v:R D) (A:Option Addr) (n c g1 g2 g3:Nat) (w:World) (l:List Int) (wr:World):Prop where
 i1:IB wr g1 [ci u]
 i2:IB wr g2 [ci v]
 i3:IB wr g3 l
 bw:Below w.heap.size w wr
 bx:wr.cell? ⟨w.heap.size,0,none⟩=some (.int .i64 D.p)∧wr.cell? ⟨w.heap.size,1,none⟩=some (.int .i64 1)∧wr.cell? ⟨w.heap.size,2,none⟩=some (.slice A n c)
theorem QtO.set_ {D:Desc} {u v:R D} {A:Option Addr} {n c J O I:Nat} {w wr:World} {l:List Int} (h:QtO D u v A n c J O I w l wr)
  (T:w.heap.size<J) (U:J<O) (V:O<I) (k:Nat) (z:Int):QtO D u v A n c J O I w (l.set k z) (wr.setCell ⟨I,k,none⟩ (.int .i64 z)) where
 i1:=h.i1.far (p:=⟨I,k,none⟩) (by show J≠I;omega) _
 i2:=h.i2.far (p:=⟨I,k,none⟩) (by show O≠I;omega) _
 i3:=h.i3.set_ k z
 bw:=h.bw.setCell (p:=⟨I,k,none⟩) (by show w.heap.size≤I;omega) _
 bx:=Qau (B:=w.heap.size+1) (κ.setCell (p:=⟨I,k,none⟩) (by show w.heap.size+1≤I;omega) _) (by omega) h.bx
theorem QtO.drew {D:Desc} {u v:R D} {A:Option Addr} {n c I J O:Nat} {w wr:World} {l:List Int} (h:QtO D u v A n c I J O w l wr):QtO D u v A n c I J O w l wr.drew :=
 ⟨h.i1,h.i2,h.i3,h.bw.drew,h.bx⟩
theorem Qke (D:Desc)(X:D.m=1)(u v:R D)(A:Option Addr)(n c:Nat)(w:World) :
  Calls Tryz.prog 149 #[.agg #[.int .i64 D.p,.int .i64 1,.slice A n c],.int .i64 (ci u),.int .i64 (ci v)] w fun e w' =>
   e=.returned (.int .i64 (ci (u*v)))∧Below w.heap.size w w':=by
 have aR:=D.p2;have aS:=D.p256;have ao:=fun w=>η (Qgs D X u w)
 have ay:=fun w=>η (Qgs D X v w)
 have hV:=fun A w hr=>η (Qli D X (u*v) A w hr)
 have ap:=η (Qi8 D X u v);have aA:=Qa8 u;have aT:=QqW u;have aB:=Qa8 v;have aU:=QqW v;have aC:∀w:World,(Instr.makeSlice 22 (.int .i64 1) (.int .i64 1)).run Tryz.prog w =
  .ok (.slice (some ⟨w.heap.size,0,none⟩) 1 1) (w.alloc (.cells #[Value.int .i64 0] 3)):=QaC 1 (by omega)
 clear X;have k0:=η (Qb9 w (.int .i64 D.p) (.int .i64 1) (.slice A n c) 24);go_enter Tryz.func149,Tryz.ntmps149;go_wp2_with fail;go_region_held3 (fun w'=>w'.cell? ⟨w.heap.size,0,none⟩=some (.int .i64 D.p)∧w'.cell? ⟨w.heap.size,1,none⟩=some (.int .i64 1)∧w'.cell? ⟨w.heap.size,2,none⟩=some (.slice A n c)) (first |exact k0.out |exact k1.out |exact k2.out)
  (first
   |(go_at_call 198;refine (ao _).out.mono ?_;clear ao;rintro e w1 ⟨Y,rfl,aO,am,af⟩;have k1:=η (Qau (b:=w.heap.size) af (by simp) k0.out);have aD:=af.size;simp only[World.drew,World.size_alloc]at aD aO)
   |(go_at_call 198;refine (ay _).out.mono ?_;rintro e I ⟨g2,rfl,a0,an,ab⟩;have k2:=η (Qau (b:=w.heap.size) ab (by omega) k1.out)))
 have aV:=ab.size;have aW:=am.lt;have aE:=an.lt;have aq:=am.below ab (by omega);have ar:Below w.heap.size w I:=(((β).drew).trans (af.mono (by simp))).trans (ab.mono (by omega));have au:w.heap.size<Y:=by omega
 have av:Y<g2:=by omega
 have J:Hid (QtO D u v A n c Y g2 I.heap.size w [0] (I.alloc (.cells #[Value.int .i64 0] 3))) :=
  ⟨aq.alloc _,an.alloc _,IB.new I [0],ar.alloc (by omega) _,Qau (B:=I.heap.size) (β) (by omega) k2.out⟩
 have aw:g2<I.heap.size:=aE;have kc:=k2.out;obtain⟨T,U,V⟩:=kc;have aX:w.heap.size<I.heap.size:=by omega
 clear am af ab k1 k0 an aq ar;go_wp2_with fail;clear T U V k2 aC;generalize I.heap.size=g3 at *;generalize (I.alloc (.cells #[Value.int .i64 0] 3))=w3 at *;obtain⟨T,U,V⟩:=J.out.bx;have ah:w3.cell? ⟨g3,0,none⟩=some (.int .i64 0):=J.out.i3.cell (i:=0) (by simp);have ai:w3.cell? ⟨Y,0,none⟩=some (.int .i64 (ci u)):=J.out.i1.cell (i:=0) (by simp);have aj:w3.cell? ⟨g2,0,none⟩=some (.int .i64 (ci v)):=J.out.i2.cell (i:=0) (by simp);refine wp_loop_rounds 2 ?_;rw[rounds_succ];go_wp2_with fail;have ew:IntKind.i64.wrap 0=0:=rfl;go_still_tail 7,(by kernel_rfl);change wpList _ _ _ _ _ w3.drew;clear ew;refine wpList_copy_nothing rfl (.tmp 43) (.tmp 48) 22 22 rfl 3 Tryz.underlying22 Qpc _ _ 0 _ 0 _ rfl rfl rfl ?_;have hf:=J.out.i3.frozen 0;have O:=η (J.out.set_ au av aw 0 0).drew;clear J;go_wp2_with fail;clear T U V ai aj ah hf;generalize (w3.setCell ⟨g3,0,none⟩ (.int .i64 0)).drew=w4 at *;obtain⟨T,U,V⟩:=O.out.bx;have ah:w4.cell? ⟨g3,0,none⟩=some (.int .i64 0):=O.out.i3.cell (i:=0) (by simp);have ai:w4.cell? ⟨Y,0,none⟩=some (.int .i64 (ci u)):=O.out.i1.cell (i:=0) (by simp);have aj:w4.cell? ⟨g2,0,none⟩=some (.int .i64 (ci v)):=O.out.i2.cell (i:=0) (by simp);have hf:=O.out.i3.frozen 0;refine wp_loop_rounds 2 ?_;rw[rounds_succ];go_wp2_with fail;obtain⟨ax,aN⟩:(0:Int)≤ci v*ci u∧ci v*ci u≤65536:=by
  have h1:=Nat.mul_le_mul (show (ci v).toNat≤256 by omega) (show (ci u).toNat≤256 by omega);have h2:(((ci v).toNat*(ci u).toNat:Nat):Int)=ci v*ci u:=by rw[Int.natCast_mul,Int.toNat_of_nonneg aB,Int.toNat_of_nonneg aA]
  omega
 have ae:=η (O.out.set_ au av aw 0 (ci (u*v))).drew;have aH:¬ D.p=0:=by omega
 have e1:IntKind.i64.wrap (D.p:Int)=(D.p:Int):=IntWalk.i64_in _ (by omega);have e2:IntKind.i64.wrap (0:Int)=0:=rfl;have e4:IntKind.i64.wrap (ci v*ci u)=ci v*ci u:=IntWalk.i64_in _ (by omega);have e6:(ci v*ci u).tmod (D.p:Int)=ci v*ci u % (D.p:Int):=Int.tmod_eq_emod_of_nonneg ax;go_still_tail 27,(by kernel_rfl);change wpList _ _ _ _ _ w4.drew;clear e1 e2 e4 e6 aH;rw[ap.out]at ae;go_wp2_with fail;generalize (w4.setCell ⟨g3,0,none⟩ (.int .i64 (ci v*ci u % (D.p:Int)))).drew=w5 at *;clear O T U V ai aj ah hf ax aN;obtain⟨T,U,V⟩:=ae.out.bx;have aM:=η (hV (some ⟨g3,0,none⟩) w5 (by have h4:=ae.out.i3.rd;simp only[List.set_cons_zero]at h4;rw[←ap.out]at h4;exact h4)).out;rw[rounds_succ];go_wp2_with fail;rw[rounds_succ];go_wp2_with fail;refine aM.out.mono ?_;rintro e w6 ⟨rfl,rfl⟩;go_wp2_with fail;go_ret;exact⟨rfl,ae.out.bw⟩
theorem Qgt (D:Desc)(u v:R D)(A:Option Addr)(c:Nat)(w:World)(J:Rd w w.heap.size A (Qan D)) :
  Calls Tryz.prog 149 #[.agg #[.int .i64 D.p,.int .i64 D.m,.slice A D.mod.length c],.int .i64 (ci u),.int .i64 (ci v)] w fun e w' =>
   e=.returned (.int .i64 (ci (u*v)))∧Below w.heap.size w w':=by
 by_cases I:D.m=1
 ·have h:=Qke D I u v A D.mod.length c w;rw[I];exact h
 ·exact Qkd D (by have:=D.m1;omega) u v A c w J
end
section
def BB (w:World)(g n:Nat)(f:Nat→Bool):Prop:=w.heap[g]?=some (.cells ((List.range n).map fun i=>Value.bool (f i)).toArray 4 (0,0))
section
variable {w w':World} {g n:Nat} {f:Nat→Bool}
theorem BB.lt (h:BB w g n f):g<w.heap.size:=by
 rcases Nat.lt_or_ge g w.heap.size with I |J
 ·exact I
 ·unfold BB at h;rw[Array.getElem?_eq_none J]at h;cases h
theorem BB.cell (h:BB w g n f){i:Nat} (I:i<n):w.cell? ⟨g,i,none⟩=some (.bool (f i)):=by
 rw[cell_of_row w g i _ _ (0,0) h];simp[I]
theorem BB.frozen (h:BB w g n f)(i:Nat):w.frozen? ⟨g,i,none⟩=false:=by
 unfold BB at h;simp[World.frozen?,h]
theorem BB.set_ (h:BB w g n f)(k:Nat)(b:Bool):BB (w.setCell ⟨g,k,none⟩ (.bool b)) g n (fun i=>if i=k then b else f i):=by
 unfold BB at h ⊢;simp only[World.setCell,Array.getElem?_modify,h];simp;apply List.ext_getElem
 ·simp
 ·intro i J O;simp only[List.getElem_set,List.getElem_map,List.getElem_range];by_cases e:k=i
  ·subst e;simp
  ·rw[if_neg e,if_neg (fun I=>e I.symm)]
theorem BB.below {B:Nat} (h:BB w g n f)(I:Below B w w')(J:g<B):BB w' g n f:=(I.block g J).trans h
theorem BB.kept {row:Option Nat} (h:BB w g n f)(I:w.grownBy w' row)(J:row≠some g):BB w' g n f:=(I.block g h.lt (fun e=>J e.symm)).trans h
theorem BB.newz (w:World)(n:Nat):BB (w.alloc (.cells (Array.replicate n (Value.bool false)) 4)) w.heap.size n (fun _=>false):=by
 have h:=heap_alloc_new w (.cells (Array.replicate n (Value.bool false)) 4);unfold BB;rw[h];have e:((List.range n).map fun _=>Value.bool false)=List.replicate n (Value.bool false):=by
  apply List.ext_getElem
  ·simp
  ·intro i I J;simp
 rw[e];simp
theorem BB.newz1 (w:World)(n:Nat):BB (w.alloc (.cells ((Array.replicate n (Value.bool false)).setIfInBounds 1 (Value.bool true)) 4)) w.heap.size n (fun i=>if i=1 then true else false):=by
 have h:=heap_alloc_new w (.cells ((Array.replicate n (Value.bool false)).setIfInBounds 1 (Value.bool true)) 4);unfold BB;rw[h];rw[show Array.replicate n (Value.bool false)=(List.replicate n (Value.bool false)).toArray by simp,List.setIfInBounds_toArray]
 congr 3
 apply List.ext_getElem
 ·simp
 ·intro i J O;simp only[List.getElem_set,List.getElem_map,List.getElem_range,List.getElem_replicate];by_cases e:1=i
  ·subst e;simp
  ·rw[if_neg e,if_neg (fun I=>e I.symm)]
end
theorem Qnk (n:Nat):madeCells #[Value.bool false] n=Array.replicate n (Value.bool false):=by
 apply Array.ext
 ·simp[madeCells]
 ·intro i I J;simp[madeCells,Nat.mod_one]
theorem Qre:(Tryz.prog.info? 4).map (fun i=>(i.zero,i.size,i.bytes))=some (some (.bool false),1,1):=by kernel_rfl
theorem QfF (n:Nat)(h:n≤70000)(w:World):(Instr.makeSlice 100 (.int .i64 (n:Int)) (.int .i64 (n:Int))).run Tryz.prog w =
  .ok (.slice (some ⟨w.heap.size,0,none⟩) n n) (w.alloc (.cells (Array.replicate n (Value.bool false)) 4)):=by
 rw[←Qnk];exact run_make_row' 100 4 (.bool false) 1 Tryz.underlying100 Qre rfl .i64 .i64 n (by omega) (by omega) w
def Qou:Value→Nat | .slice _ n _=>n |_=>0
theorem Own.lenV {w:World} {B:Nat} {v:Value} {l:List Int} (h:Own w B v l):Qou v=l.length:=by
 obtain⟨A,c,rfl,_⟩:=h.form;rfl
def pwl {D:Desc} (u:R D)(N:Nat):List Int:=lst N fun i=>ci (pw u i)
structure Qpd (D:Desc) (u:R D) (A:Option Addr) (c g:Nat) (w:World) (v:Value) (k:Nat) (f:Nat→Bool) (wr:World):Prop where
 own:Own wr (w.heap.size+1) v (pwl u (k+1))
 seen:BB wr g D.q f
 mark:∀n,n<D.q→(f n=true↔∃i,i<k+1∧QaA (pw u i)=n)
 ne:v.ownBlock≠some g
 gl:w.heap.size<g
 bw:Below w.heap.size w wr
 sz:w.heap.size<wr.heap.size
 bx:wr.cell? ⟨w.heap.size,0,none⟩=some (.int .i64 D.p)∧wr.cell? ⟨w.heap.size,1,none⟩=some (.int .i64 D.m)∧wr.cell? ⟨w.heap.size,2,none⟩=some (.slice A D.mod.length c)
 lst:Qc9 u (k+1)
theorem Qpd.step {D:Desc} {u:R D} {A:Option Addr} {c g:Nat} {w wr w3 w4:World} {v O:Value} {k y:Nat} {f:Nat→Bool} (h:Qpd D u A c g w v k f wr)
  (V:y=QaA (pw u (k+1))) (_hyq:y<D.q) (hl:Qc9 u (k+1+1))
  (ab:Own w3 (w.heap.size+1) O (pwl u (k+1) ++ [ci (pw u (k+1))])) (T:Below (w.heap.size+1) (wr.setCell ⟨g,y,none⟩ (.bool true)) w3)
  (hg:(wr.setCell ⟨g,y,none⟩ (.bool true)).grownBy w3 v.ownBlock) (hv:O.ownBlock=v.ownBlock∨∀k,O.ownBlock=some k→(wr.setCell ⟨g,y,none⟩ (.bool true)).heap.size≤k)
  (I:Below w3.heap.size w3 w4):Qpd D u A c g w O (k+1) (fun i=>if i=y then true else f i) w4:=by
 have X:(wr.setCell ⟨g,y,none⟩ (.bool true)).heap.size=wr.heap.size:=by simp[World.setCell]
 have ai:=h.seen.lt;have ae:=T.size;rw[X]at ae;have aj:=h.sz;have Y:Below (w.heap.size+1) wr (wr.setCell ⟨g,y,none⟩ (.bool true)):=κ.setCell (p:=⟨g,y,none⟩) h.gl _;refine⟨?_,?_,fun n hn=>?_,?_,h.gl,?_,?_,?_,hl⟩
 ·rw[show pwl u (k+1+1)=pwl u (k+1) ++ [ci (pw u (k+1))] from Qdo _ _];exact ab.below I ρ
 ·exact ((h.seen.set_ y true).kept hg h.ne).below I (by omega)
 ·by_cases e:n=y
  ·rw[if_pos e];simp;exact⟨k+1,by omega,by rw[e,V]⟩
  ·rw[if_neg e,h.mark n hn];constructor
   ·rintro⟨i,hi,J⟩;exact⟨i,by omega,J⟩
   ·rintro⟨i,hi,J⟩;by_cases e2:i=k+1
    ·subst e2;rw[←V]at J;exact absurd J.symm e
    ·exact⟨i,by omega,J⟩
 ·intro e;rcases hv with U |U
  ·exact h.ne (by rw[←U,e])
  ·have:=U g e;rw[X]at this;omega
 ·exact ((h.bw.trans (Y.mono (by omega))).trans (T.mono (by omega))).trans (I.mono (by omega))
 ·have:=I.size;omega
 ·exact Qau I (by omega) (Qau T (by omega) (Qau Y (by omega) h.bx))
theorem Qnl (D:Desc)(u:R D)(A:Option Addr)(c:Nat)(w:World)(hr:Rd w w.heap.size A (Qan D)) :
  Calls Tryz.prog 148 #[.agg #[.int .i64 D.p,.int .i64 D.m,.slice A D.mod.length c],.int .i64 D.q,.int .i64 (ci u)] w fun e w' =>
   ∃N v,Qc9 u N∧Qij u N∧e=.returned v∧Own w' (w.heap.size+1) v (pwl u N)∧Below w.heap.size w w':=by
 have aN:=D.q2;have aO:=D.q256;have aP:=D.p256;have aQ:=D.m8;have aq:=QfF D.q (by omega);have k0:=η (Qb9 w (.int .i64 D.p) (.int .i64 D.m) (.slice A D.mod.length c) 24);have aR:1<D.q:=by omega
 have hM:=fun k w hr=>η (Qgt D (pw u k) u A c w hr)
 have I:Hid (Qpd D u A c (w.heap.size+1+1) w (.slice (some ⟨w.heap.size+1,0,none⟩) 1 1) 0 (fun i=>if i=1 then true else false)
   (((w.alloc (.cells #[.int .i64 D.p,.int .i64 D.m,.slice A D.mod.length c] 24)).alloc (.cells #[Value.int .i64 1] 3)).alloc (.cells ((Array.replicate D.q (Value.bool false)).setIfInBounds 1 (Value.bool true)) 4))):=by
  have h1:IB ((w.alloc (.cells #[.int .i64 D.p,.int .i64 D.m,.slice A D.mod.length c] 24)).alloc (.cells #[Value.int .i64 1] 3)) (w.heap.size+1) [1]:=by
   have:=IB.new (w.alloc (.cells #[.int .i64 D.p,.int .i64 D.m,.slice A D.mod.length c] 24)) [1]
   simpa using this
  have h2:=BB.newz1 ((w.alloc (.cells #[.int .i64 D.p,.int .i64 D.m,.slice A D.mod.length c] 24)).alloc (.cells #[Value.int .i64 1] 3)) D.q;refine⟨?_,by simpa using h2,fun n hn=>?_,by simp[Value.ownBlock],by omega,((β).alloc (by simp) _).alloc (by simp;omega) _,by simp;omega,?_,Qc9.one u⟩
  ·have h3:=Own.of_IB (B:=w.heap.size+1) (h1.alloc (.cells ((Array.replicate D.q (Value.bool false)).setIfInBounds 1 (Value.bool true)) 4)) ρ (by simp[maxLen]);rw[show pwl u (0+1)=[1] by unfold pwl;rw[Qdo,QbK,Qei];rfl];exact h3
  ·constructor
   ·intro h;have h4:n=1:=by
     apply Classical.byContradiction;intro e;simp[e]at h
    exact⟨0,by omega,by rw[QbK,Qcx,h4]⟩
   ·rintro⟨i,Y,e⟩;obtain rfl:i=0:=by omega
    rw[QbK,Qcx]at e;simp[←e]
  ·exact Qau (B:=w.heap.size+1) (κ.alloc (by simp) _) (by omega) (Qau (B:=w.heap.size+1) (κ.alloc (by simp) _) (by omega) k0.out)
 go_enter Tryz.func148,Tryz.ntmps148;go_wp2_with fail;obtain⟨g,hg⟩:=ε (w.heap.size+1+1);rw[←hg]at I ⊢;clear aq k0 hg;go_loopw [7,9] (fun o y wr=>∃ (k:Nat) (f:Nat→Bool),y=.int .i64 (ci (pw u (k+1)))∧Hid (Qpd D u A c g w o k f wr)) (fun o _ _=>D.q - Qou o)
 case atStart=>exact⟨0,_,by rw[Qii],I⟩
 case round =>
  clear I;obtain⟨k,f,rfl,I⟩:=hrel;have af:=Qa8 (pw u (k+1));have ax:=Qeu (pw u (k+1));obtain⟨y,O⟩:=Int.eq_ofNat_of_zero_le af;have J:y=QaA (pw u (k+1)):=by unfold ci at O;omega
  have U:y<D.q:=by omega
  have ad:=I.out.own.lenV;rw[show (pwl u (k+1)).length=k+1 from Qab _ _]at ad;have aS:=I.out.lst.le;have ay:=η ad;have V:=I.out.own.lenV;clear V ad;obtain⟨aX,aY,aZ⟩:=I.out.bx;have ag:=I.out.seen.cell U;have hf:=I.out.seen.frozen y;by_cases hz:pw u (k+1)=0
  ·have az:y=0:=by rw[J,hz,QbJ]
   have ae:Qij u (k+1):=.inl hz;subst az;rw[O];clear O J hz;go_wp2_with fail;go_ret;exact⟨k+1,_,I.out.lst,ae,rfl,I.out.own,I.out.bw⟩
  ·have aU:((y:Int) !=0)=true:=by
    rw[bne_iff_ne];intro e;exact hz (Qbf (by rw[←J,QbJ];omega))
   by_cases T:f y=true
   ·have ae:Qij u (k+1):=by
     obtain⟨i,Y,e⟩:=(I.out.mark y U).1 T;exact .inr ⟨i,Y,Qbf (by rw[←J,e])⟩
    rw[T]at ag;rw[O];clear O J hz;go_wp2_with fail;go_ret;exact⟨k+1,_,I.out.lst,ae,rfl,I.out.own,I.out.bw⟩
   ·have ah:f y=false:=by simpa using T
    rw[ah]at ag;have ai:¬ Qij u (k+1):=by
     rintro (h |⟨i,Y,e⟩)
     ·exact hz h
     ·exact T ((I.out.mark y U).2 ⟨i,Y,by rw[J,e]⟩)
    have aj:=η (I.out.lst.succ ai);have aV:=aj.out.le;have ak:ci (pw u (k+1))=(y:Int):=O;have aA:=I.out.own.far (p:=⟨g,y,none⟩) I.out.ne (.bool true);have X:(wr.setCell ⟨g,y,none⟩ (.bool true)).heap.size=wr.heap.size:=by simp[World.setCell]
    have aW:=I.out.sz;have aB:(pwl u (k+1)).length≤1000000:=by rw[show (pwl u (k+1)).length=k+1 from Qab _ _];omega
    have al:w.heap.size+1≤(wr.setCell ⟨g,y,none⟩ (.bool true)).heap.size:=by rw[X];omega
    have aC:Below (w.heap.size+1) wr (wr.setCell ⟨g,y,none⟩ (.bool true)):=κ.setCell (p:=⟨g,y,none⟩) I.out.gl _;have aD:=η (Qau aC (Nat.lt_succ_self _) I.out.bx);have aE:=hM (k+1);have aF:Hid (pw u (k+1)*u=pw u (k+1+1)):=rfl;have aG:=η J;have am:=η ak;replace X:=η X;have aH:Below w.heap.size w (wr.setCell ⟨g,y,none⟩ (.bool true)):=I.out.bw.setCell (p:=⟨g,y,none⟩) (Nat.le_of_lt I.out.gl) _;rw[O];clear O J hz T ah ai ak af ax;go_wp2_with (at_builtin;go_loud (refine Qbs rfl _ _ rfl (w.heap.size+1) _ _ _ aA rfl rfl X.out aB al ?_);intro v' w3 ap aa aL aM;obtain⟨a0,a1,a2⟩:=Qau (b:=w.heap.size) aa (Nat.lt_succ_self _) aD.out);rw[←am.out];refine (aE _ ((hr.below (aH.trans (aa.mono (Nat.le_succ _)))).more (τ (Nat.le_of_lt (θ (Nat.lt_succ_self _) al)) aa.size))).out.mono ?_;rw[aF.out];rintro e w4 ⟨rfl,aK⟩;go_wp2_with fail;have aI:Own w3 (w.heap.size+1) v' (pwl u (k+1) ++ [ci (pw u (k+1))]):=by rw[am.out];exact ap
    have aJ:=I.out.step aG.out U aj.out aI aa aL aM aK;have V:=ap.lenV;rw[List.length_append,show (pwl u (k+1)).length=k+1 from Qab _ _]at V;go_roundw
    case rel=>exact⟨k+1,_,rfl,aJ⟩
    case measure =>
     have h1:=ay.out
     show D.q - Qou v'<D.q - Qou u7
     rw[V,h1,List.length_singleton];omega
end
section
theorem Qpe {D:Desc} {u:R D} (h:Qdk u):1≤QaA u:=by
 rcases Nat.eq_zero_or_pos (QaA u) with h0 |h0
 ·have J:u=0:=Qbf (h0.trans QbJ.symm);have I:=h.2;have:=D.q2;rw[J,Qe5 (by omega)]at I;exact absurd I.symm QgK
 ·exact h0
theorem bx4 {B b:Nat} {W w1:World} {D:Desc} {A:Option Addr} {n c:Nat} {p:Addr} {v:Option Value} (h:Bx W b D A n c)(J:W.cell? p=v)(I:Below B W w1)(O:b<B)(T:p.block<B) :
  w1.cell? ⟨b,0,none⟩=some (.int .i64 D.p)∧w1.cell? ⟨b,1,none⟩=some (.int .i64 D.m)∧w1.cell? ⟨b,2,none⟩=some (.slice A n c)∧w1.cell? p=v:=by
 obtain⟨U,V,X⟩:=h.below I O;exact⟨U,V,X,(I.cell T).trans J⟩
theorem Qxa {b:Nat} {W:World} {D:Desc} {A:Option Addr} {n c:Nat} {p:Addr} {v:Option Value} (h:Bx W b D A n c)(I:W.cell? p=v) :
  W.cell? ⟨b,0,none⟩=some (.int .i64 D.p)∧W.cell? ⟨b,1,none⟩=some (.int .i64 D.m)∧W.cell? ⟨b,2,none⟩=some (.slice A n c)∧W.cell? p=v :=
 ⟨h.1,h.2.1,h.2.2,I⟩
def QtP (D:Desc)(w:World)(e:Ending)(w':World):Prop :=
 ∃v,e=.returned v∧Below w.heap.size w w'∧((∃u:R D,Qdk u∧Own w' (w.heap.size+1) v (pwl u (D.q - 1)))∨((∀u:R D,¬ Qdk u)∧v=.slice none 0 0))
theorem QcY (D:Desc)(A:Option Addr)(c:Nat)(w:World)(hr:Rd w w.heap.size A (Qan D)) :
  Calls Tryz.prog 88 #[.agg #[.int .i64 D.p,.int .i64 D.m,.slice A D.mod.length c],.int .i64 D.q] w (QtP D w):=by
 have aW:=D.q2;have aX:=D.q256;have aY:=D.p256;have aZ:=D.m8;have aF:=Bx.new w D A D.mod.length c 24;go_enter Tryz.func88,Tryz.ntmps88;go_wp2_with fail;go_loopw [5,6] (fun x _ wr=>∃k:Nat,1≤k∧k≤D.q∧x=.int .i64 k∧Bx wr w.heap.size D A D.mod.length c∧Below w.heap.size w wr∧w.heap.size<wr.heap.size∧Hid (∀u:R D,QaA u<k→¬ Qdk u)) (fun x _ _=>D.q - (intOf x).toNat)
 case atStart=>exact⟨1,by omega,by omega,rfl,aF,β,by simp,fun u V h=>by have:=Qpe h;omega⟩
 case round =>
  obtain⟨k,a7,a8,rfl,aA,ak,ah,al⟩:=hrel;have kc:=aA;obtain⟨a9,ba,bb⟩:=kc;by_cases aE:k<D.q
  ·obtain⟨u,V⟩:=ε (rel D k:R D);have ac:ci u=(k:Int):=by rw[V,QsJ aE]
   have ad:QaA u=k:=by rw[V,QbA aE]
   have hP:=Qnl D u A c wr ((hr.below ak).more (by omega));rw[ac]at hP;replace hP:=η hP;replace ac:=η ac;replace V:=η V;replace ad:=η ad;go_wp2_with fail;refine hP.out.mono ?_;rintro e w1 ⟨N,v,U,aD,rfl,ao,ap⟩;have ar:=ap.size;have ai:=aA.below ap ah;have af:=ak.trans (ap.mono (Nat.le_of_lt ah));have aH:=U.le;have a0:=U.1;obtain⟨Av,cv,rfl,aB,aC,aQ⟩:=ao.form;have X:(pwl u N).length=N:=Qab _ _;rw[X]at aB ⊢;replace X:=η X;by_cases hN:N=D.q - 1
   ·have aI:((N:Int)==(D.q:Int) - 1)=true:=by rw[beq_iff_eq];omega
    have au:D.q - 2<N:=by omega
    obtain⟨b,am,rfl,hb,an⟩:=aC.at_ (k:=D.q - 2) (by rw[X.out];exact au);rw[show (pwl u N)[D.q - 2]?.getD 0=ci (pw u (D.q - 2)) from Qas _ au]at an;have hM:∀W:World,Rd W W.heap.size A (Qan D)→Hid (Calls Tryz.prog 149 #[.agg #[.int .i64 D.p,.int .i64 D.m,.slice A D.mod.length c],.int .i64 (ci (pw u (D.q - 2))),.int .i64 k] W fun e w' =>
      e=.returned (.int .i64 (ci (pw u (D.q - 1))))∧Below W.heap.size W w'):=fun W hW=>by
     have h:=Qgt D (pw u (D.q - 2)) u A c W hW;rw[ac.out,←Qbi,show D.q - 2+1=D.q - 1 by omega]at h;exact h
    have aJ:Hid (Qc9 u (D.q - 1)):=by rw[hN]at U;exact U
    have aK:Hid (Own w1 (wr.heap.size+1) (.slice (some ⟨b,am,none⟩) N cv) (pwl u (D.q - 1))):=by have h:=ao;rw[X.out]at h;rw[←hN];exact h
    have aw:=η ((hr.below af).more (show w.heap.size≤w1.heap.size by omega));have Y:=η ai;have ag:=η an;have a1:(0:Int)≤(D.q:Int) - 2:=by omega
    have a2:(D.q:Int) - 2<(N:Int):=by omega
    have a3:(2:Int)≤(D.q:Int):=by omega
    have a4:(D.q:Int)<(N:Int)+2:=by omega
    have a5:((D.q:Int) - 2).toNat=D.q - 2:=by omega
    have aL:Hid (¬ pw u (D.q - 1)=1→∀u:R D,QaA u<k+1→¬ Qdk u):=fun aU O aV=>by
     by_cases e:QaA O=k
     ·have:O=u:=Qbf (by rw[e,ad.out]);subst this;exact fun h=>aU h.2
     ·exact al.out O (by omega)
    have ax:IntKind.i64.wrap ((D.q:Int) - 1)=(D.q:Int) - 1:=IntWalk.i64_in _ (by omega);have ay:IntKind.i64.wrap ((D.q:Int) - 2)=(D.q:Int) - 2:=IntWalk.i64_in _ (by omega);have T:w.heap.size<w1.heap.size:=θ ah ar;have az:b<w1.heap.size:=hb;clear hN aC aQ an ao U aD aH ai aB;by_cases J:pw u (D.q - 1)=1
    ·have aM:(ci (pw u (D.q - 1))==1)=true:=by rw[beq_iff_eq];exact Qev.2 J
     replace J:=η J;go_wp2_with fail;go_region_held3 (fun w'=>w'.cell? ⟨w.heap.size,0,none⟩=some (.int .i64 D.p)∧w'.cell? ⟨w.heap.size,1,none⟩=some (.int .i64 D.m)∧w'.cell? ⟨w.heap.size,2,none⟩=some (.slice A D.mod.length c)∧w'.cell? ⟨b,am+(D.q - 2),none⟩=some (.int .i64 (ci (pw u (D.q - 2)))))
      (first |exact Qxa Y.out ag.out |exact k2.out)
      (first
       |(go_at_call 149;refine (hM _ aw.out.drew).out.mono ?_;rintro e w2 ⟨rfl,I⟩;have k2:=η (bx4 (W:=w1.drew) Y.out ag.out I T az)))
     clear ax ay;go_wp2_with fail;go_ret;exact⟨_,rfl,af.drew.trans (I.mono (Nat.le_of_lt T)),.inl ⟨u,aJ.out.gen J.out,by
      have h6:=(aK.out.drew.below I ρ);exact World.ownsRow.mono h6 (by omega)⟩⟩
    ·have aM:(ci (pw u (D.q - 1))==1)=false:=by rw[beq_eq_false_iff_ne];exact fun h=>J (Qev.1 h)
     have aa:=η (aL.out J);clear J;go_wp2_with fail;go_region_held3 (fun w'=>w'.cell? ⟨w.heap.size,0,none⟩=some (.int .i64 D.p)∧w'.cell? ⟨w.heap.size,1,none⟩=some (.int .i64 D.m)∧w'.cell? ⟨w.heap.size,2,none⟩=some (.slice A D.mod.length c)∧w'.cell? ⟨b,am+(D.q - 2),none⟩=some (.int .i64 (ci (pw u (D.q - 2)))))
      (first |exact Qxa Y.out ag.out |exact k2.out)
      (first
       |(go_at_call 149;refine (hM _ aw.out.drew).out.mono ?_;rintro e w2 ⟨rfl,I⟩;have k2:=η (bx4 (W:=w1.drew) Y.out ag.out I T az)))
     clear ax ay;go_wp2_with fail;go_roundw
     case rel=>exact⟨k+1,by omega,by omega,by go_num,Y.out.drew.below I T,af.drew.trans (I.mono (Nat.le_of_lt T)),θ T I.size,aa⟩
     case measure=>simp[intOf];omega
   ·have aI:((N:Int)==(D.q:Int) - 1)=false:=by rw[beq_eq_false_iff_ne];omega
    have aa:Hid (∀u:R D,QaA u<k+1→¬ Qdk u):=fun O aV=>by
     by_cases e:QaA O=k
     ·have:O=u:=Qbf (by rw[e,ad.out]);subst this;exact fun h=>hN (h.pwlist U aD)
     ·exact al.out O (by omega)
    have aO:IntKind.i64.wrap ((D.q:Int) - 1)=(D.q:Int) - 1:=IntWalk.i64_in _ (by omega);clear hN;go_wp2_with fail;go_quiet (fail);clear aO;go_wp2_with fail;go_roundw
    case rel=>exact⟨k+1,by omega,by omega,by go_num,ai,Qbj af _,θ ah ar,aa⟩
    case measure=>simp[intOf];omega
  ·have hk:k=D.q:=by omega
   have aa:Hid (∀u:R D,¬ Qdk u):=fun u=>al.out u (by have:=QaM u;omega)
   go_wp2_with fail;go_ret;exact⟨_,rfl,ak,.inr ⟨aa.out,rfl⟩⟩
end
section
noncomputable def lg (D:FD)(x:R D.z):Nat :=
 open Classical in if h : x ≠ 0 then Classical.choose (D.g_all x h) else 0
theorem QtQ (D:FD):lg D 0=0:=by unfold lg;rw[dif_neg (fun h=>h rfl)]
theorem Qnm (D:FD)(x:R D.z):lg D x<D.q - 1:=by
 have:=D.q2;unfold lg;by_cases h:x≠0
 ·rw[dif_pos h];exact (Classical.choose_spec (D.g_all x h)).1
 ·rw[dif_neg h];omega
theorem Qnn (D:FD){x:R D.z} (h:x≠0):pw D.g (lg D x)=x:=by
 unfold lg;rw[dif_pos h];exact (Classical.choose_spec (D.g_all x h)).2.symm
theorem Qxb (D:FD)(i:Nat):pw D.g i≠0:=QcE (QoB (F:=R D.z)) i
theorem QwT (D:FD){i:Nat} (h:i<D.q - 1):lg D (pw D.g i)=i :=
 D.g_inj _ _ (Qnm _ _) h (Qnn D (Qxb D i))
noncomputable def lgl (D:FD):List Int:=lst D.q fun n=>(lg D (rel D.z n):Nat)
def QqI (D:FD):List Int:=pwl D.g (D.q - 1)
structure GF (w:World) (B g:Nat) (D:FD):Prop where
 lt:g<B
 c0:w.cell? ⟨g,0,none⟩=some (.int .i64 D.p)
 c1:w.cell? ⟨g,1,none⟩=some (.int .i64 D.m)
 md:∃A c,w.cell? ⟨g,2,none⟩=some (.slice A D.mod.length c)∧Rd w B A (Qan D.z)
 c3:w.cell? ⟨g,3,none⟩=some (.int .i64 D.q)
 ex:∃A c,w.cell? ⟨g,4,none⟩=some (.slice A (D.q - 1) c)∧Rd w B A (QqI D)
 lo:∃A c,w.cell? ⟨g,5,none⟩=some (.slice A D.q c)∧Rd w B A (lgl D)
theorem GF.keep {w w':World} {B g:Nat} {D:FD} (h:GF w B g D)(I:∀p:Addr,p.block<B→w'.cell? p=w.cell? p):GF w' B g D where
 lt:=h.lt
 c0:=(I _ h.lt).trans h.c0
 c1:=(I _ h.lt).trans h.c1
 md:=by obtain⟨A,c,J,O⟩:=h.md;exact⟨A,c,(I _ h.lt).trans J,O.keep I⟩
 c3:=(I _ h.lt).trans h.c3
 ex:=by obtain⟨A,c,J,O⟩:=h.ex;exact⟨A,c,(I _ h.lt).trans J,O.keep I⟩
 lo:=by obtain⟨A,c,J,O⟩:=h.lo;exact⟨A,c,(I _ h.lt).trans J,O.keep I⟩
theorem GF.below {w w':World} {B g:Nat} {D:FD} (h:GF w B g D)(I:Below B w w'):GF w' B g D:=h.keep fun _ hp=>I.cell hp
theorem GF.more {w:World} {B B' g:Nat} {D:FD} (h:GF w B g D)(O:B≤B'):GF w B' g D where
 lt:=by have:=h.lt;omega
 c0:=h.c0
 c1:=h.c1
 md:=by obtain⟨A,c,I,J⟩:=h.md;exact⟨A,c,I,J.more O⟩
 c3:=h.c3
 ex:=by obtain⟨A,c,I,J⟩:=h.ex;exact⟨A,c,I,J.more O⟩
 lo:=by obtain⟨A,c,I,J⟩:=h.lo;exact⟨A,c,I,J.more O⟩
theorem GF.bm {w:World} {g:Nat} {D:FD} {w':World}(h:GF w w.heap.size g D)(I:Below w.heap.size w w') : GF w' w'.heap.size g D:=(h.below I).more (I.size)
theorem GF.drew {w:World} {B g:Nat} {D:FD} (h:GF w B g D):GF w.drew B g D:=h.keep fun _ _=>rfl
def QtR (D:Desc)(w:World)(e:Ending)(w':World):Prop :=
 Below w.heap.size w w'∧((∃g,∃F:FD,F.z=D∧e=.returned (.tuple #[.pointer (some ⟨g,0,none⟩),.int .i64 0])∧w.heap.size≤g∧GF w' w'.heap.size g F) ∨
  ((∀u:R D,¬ Qdk u)∧e=.returned (.tuple #[.pointer none,.int .i64 1])))
def Qno (D:Desc)(w:World)(v:Value)(J:Value)(I:World):Prop :=
 ∃g gl A c,J=.pointer (some ⟨g,0,none⟩)∧w.heap.size≤g∧w.heap.size≤gl∧g<I.heap.size∧g≠gl∧IB I gl (List.replicate D.q 0)∧Below w.heap.size w I ∧
  I.heap[g]?=some (.cells #[.int .i64 D.p,.int .i64 D.m,.slice A D.mod.length c,.int .i64 D.q,v,.slice (some ⟨gl,0,none⟩) D.q D.q] 127 (0,0)) ∧
  Rd I I.heap.size A (Qan D)∧(∀b,A=some b→b.block≠gl)
theorem Qno.of {D:Desc} {I w4:World} {J:Option Addr} {T gl H:Nat} {v:Value} (U:IB w4 gl (List.replicate D.q 0))(V:Rd w4 w4.heap.size J (Qan D))(X:∀b,J=some b→b.block≠gl)
  (O:Below I.heap.size I w4) (Y:I.heap.size≤gl) (hH:w4.heap.size=H) :
  Qno D I v (.pointer (some ⟨H,0,none⟩)) (w4.alloc (.cells #[.int .i64 D.p,.int .i64 D.m,.slice J D.mod.length T,.int .i64 D.q,v,.slice (some ⟨gl,0,none⟩) D.q D.q] 127)):=by
 subst hH;have hl:=U.lt;exact⟨w4.heap.size,gl,J,T,rfl,O.size,Y,by simp,by omega,U.alloc _,O.alloc O.size _,heap_alloc_new w4 _,(V.alloc ρ _).more (by simp),X⟩
theorem Bx.alloc {b:Nat} {W:World} {D:Desc} {A:Option Addr} {n c:Nat} (h:Bx W b D A n c)(I:b<W.heap.size)(o:Obj):Bx (W.alloc o) b D A n c:=h.below (κ.alloc ρ o) I
theorem Qa9 {W:World} {B g:Nat} (h:W.heap[g]?=some (.cells #[] 3 (0,0)))(I:B≤g):Own W B (.slice (some ⟨g,0,none⟩) 0 0) [] :=
 Own.of_IB (l:=[]) h I (by simp[maxLen])
noncomputable def Qrf (F:FD)(k:Nat):List Int:=lst F.q fun n=>if rel F.z n≠0∧lg F (rel F.z n)<k then (lg F (rel F.z n):Nat) else 0
theorem Qkf (F:FD):Qrf F 0=List.replicate F.q 0:=by
 rw[Qd2];exact Qay fun i _=>by simp
theorem Qkg (F:FD):Qrf F (F.q - 1)=lgl F:=Qay fun n J=>by
 by_cases h:rel F.z n=0
 ·rw[if_neg (fun I=>I.1 h),h,QtQ];rfl
 ·rw[if_pos ⟨h,Qnm _ _⟩]
theorem Qmf (F:FD){k:Nat} (T:k<F.q - 1):(Qrf F k).set (QaA (pw F.g k)) (k:Int)=Qrf F (k+1):=by
 unfold Qrf;rw[Qd1];refine Qay fun n U=>?_
 by_cases e:n=QaA (pw F.g k)
 ·have I:rel F.z n=pw F.g k:=by rw[e,QaT]
  rw[if_pos e,I,QwT F T,if_pos ⟨Qxb F k,by omega⟩]
 ·rw[if_neg e];by_cases h0:rel F.z n=0
  ·rw[if_neg (fun I=>I.1 h0),if_neg (fun I=>I.1 h0)]
  ·have J:lg F (rel F.z n)≠k:=fun J=>e (by
    rw[←J,Qnn F h0,QbA U])
   by_cases O:lg F (rel F.z n)<k
   ·rw[if_pos ⟨h0,O⟩,if_pos ⟨h0,by omega⟩]
   ·rw[if_neg (fun I=>O I.2),if_neg (fun I=>by omega)]
theorem Qkh (D:Desc)(A:Option Addr)(c:Nat)(w:World)(Y:Rd w w.heap.size A (Qan D)) :
    Calls Tryz.prog 30 #[.agg #[.int .i64 D.p,.int .i64 D.m,.slice A D.mod.length c]] w (QtR D w):=by
  have bE:=D.q2;have bF:=D.q256;have bG:=D.p256;have bH:=D.m8;have bI:D.mod.length≤8:=by have:=D.hlen;rw[this];split <;> omega
  have aQ:=Bx.new w D A D.mod.length c 24;have hS:=fun w Y=>η (Qez D.p D.m (Qan D) A c w (by omega) (by omega) (by rw[Qaf];simp only[maxLen];omega) Y)
  rw[Qaf,Qdc ⟨D,rfl,rfl,rfl⟩]at hS;have hO:=fun w=>η (QfE D.p D.m w (by omega) (by omega))
  rw[Qi6]at hO;have hG:=fun w Y=>η (QcY D A c w Y)
  have bc:=QaC D.q (by omega);have bf:=fun (W:World) (a:Option Addr) (n c:Nat)=>Lib.run_eql_slice_nil (P:=Tryz.prog) W 22 3 a n c 0 0 Tryz.underlying22
  have aS:=Y.alloc ρ (.cells #[.int .i64 D.p,.int .i64 D.m,.slice A D.mod.length c] 24);go_enter Tryz.func30,Tryz.ntmps30;go_wp2_with fail;refine (hS _ (aS.more (by simp))).out.mono ?_;rintro e w1 ⟨rfl,aq⟩;have bg:=aq.size;simp only[World.size_alloc]at bg;have az:=aQ.below aq (by simp);have aT:Below w.heap.size w w1:=(β).trans (aq.mono (by simp));have kc:=az;obtain⟨aK,aL,aM⟩:=kc;go_wp2_with (go_at_call 87;refine (hO _).out.mono ?_;rintro e w9 ⟨rfl,rfl⟩);refine (hG _ ((Y.below aT).more (by omega))).out.mono ?_;rintro e I ⟨v,rfl,ar,bz⟩;have bJ:=ar.size;have ac:=az.below ar (by omega);have aB:=aT.trans (ar.mono (by omega));clear aK aL aM;have kc:=ac;obtain⟨aK,aL,aM⟩:=kc;rcases bz with ⟨u,hu,aE⟩ |⟨bA,rfl⟩
  · obtain⟨Av,cv,rfl,aD,a5,br⟩:=aE.form;have ag:(pwl u (D.q - 1)).length=D.q - 1:=Qab _ _;rw[ag]at aD ⊢;obtain⟨be,oe,rfl,a6,ah⟩:=a5 (by rw[ag];omega);rw[ag]at ah;have aC:=(Y.below aB).more (show w.heap.size≤I.heap.size by omega);have T:w.heap.size<I.heap.size:=by omega
    obtain⟨W,hW⟩:=ε (I.heap.size);replace ah:=η ah;replace aD:=η aD;replace aE:=η aE;replace ag:=η ag;clear br hS hO hG aQ az aq ar aS a5;go_wp2_with fail;go_upto_region 7 with (fail)
    go_cut [6] (fun s6 wx=>Qno D I (.slice (some ⟨be,oe,none⟩) (D.q - 1) cv) s6 wx)
    case first =>
      have o1:Hid (Own (I.alloc (.cells #[] 3)).drew I.heap.size (.slice (some ⟨I.heap.size,0,none⟩) 0 0) []):=Qa9 (heap_alloc_new I _) ρ;have o2:Hid (Own ((I.alloc (.cells #[] 3)).alloc (.cells (Array.replicate D.q (Value.int .i64 0)) 3)).drew I.heap.size (.slice (some ⟨I.heap.size,0,none⟩) 0 0) []):=o1.out.alloc _;have o3:Hid (Own ((I.alloc (.cells (Array.replicate D.q (Value.int .i64 0)) 3)).alloc (.cells #[] 3)).drew I.heap.size (.slice (some ⟨I.heap.size+1,0,none⟩) 0 0) []) :=
        Qa9 (by have:=heap_alloc_new (I.alloc (.cells (Array.replicate D.q (Value.int .i64 0)) 3)) (.cells #[] 3);rw[World.size_alloc]at this;exact this) (by omega)
      have r1:Hid (Rd (I.alloc (.cells #[] 3)).drew I.heap.size A (Qan D)):=aC.alloc ρ _;have r2:Hid (Rd ((I.alloc (.cells #[] 3)).alloc (.cells (Array.replicate D.q (Value.int .i64 0)) 3)).drew I.heap.size A (Qan D)):=r1.out.alloc (by simp) _;have r3:Hid (Rd ((I.alloc (.cells (Array.replicate D.q (Value.int .i64 0)) 3)).alloc (.cells #[] 3)).drew I.heap.size A (Qan D)):=(aC.alloc ρ _).alloc (by simp) _;have ai:D.mod.length=(Qan D).length:=(Qaf D).symm;have aF:Hid ((([]:List Int) ++ Qan D).length=D.mod.length):=by unfold Hid;rw[List.nil_append,Qaf]
      have aG:([]:List Int).length+(Qan D).length≤1000000000:=by rw[Qaf];simp;omega
      have b1:I.heap.size≤(I.alloc (.cells #[] 3)).drew.heap.size:=by simp
      have b2:I.heap.size≤((I.alloc (.cells #[] 3)).alloc (.cells (Array.replicate D.q (Value.int .i64 0)) 3)).drew.heap.size:=by simp;omega
      have b3:I.heap.size≤((I.alloc (.cells (Array.replicate D.q (Value.int .i64 0)) 3)).alloc (.cells #[] 3)).drew.heap.size:=by simp;omega
      replace ai:=η ai;have kb:=η ac;have x1:=η (ac.alloc T (.cells #[] 3));have x2:=η (ac.alloc T (.cells (Array.replicate D.q (Value.int .i64 0)) 3));have x3:=η (x1.out.alloc (by simp;omega) (.cells (Array.replicate D.q (Value.int .i64 0)) 3));have x4:=η (x2.out.alloc (by simp;omega) (.cells #[] 3));clear ac;go_region_held3 (fun w'=>w'.cell? ⟨w.heap.size,0,none⟩=some (.int .i64 D.p)∧w'.cell? ⟨w.heap.size,1,none⟩=some (.int .i64 D.m)∧w'.cell? ⟨w.heap.size,2,none⟩=some (.slice A D.mod.length c))
        (first |exact kb.out |exact x1.out |exact x2.out |exact x3.out |exact x4.out |exact y.out |exact y.out.alloc ao _ |exact (y.out.alloc ao _).alloc (by simp;omega) _)
        (first
          |(refine QaL rfl (.tmp 26) (.tmp 28) rfl I.heap.size _ [] I.heap.size A c (Qan D) o1.out r1.out rfl rfl ai.out aG b1 ?_;intro v3 w3 am J au av;obtain⟨A3,c3,rfl,a7,O,al⟩:=am.form;rw[aF.out];have y:=η (Bx.below (W:=(I.alloc (.cells #[] 3)).drew) x1.out J T);have ao:w.heap.size<w3.heap.size:=θ T (τ b1 J.size))
          |(refine QaL rfl (.tmp 26) (.tmp 28) rfl I.heap.size _ [] I.heap.size A c (Qan D) o2.out r2.out rfl rfl ai.out aG b2 ?_;intro v3 w3 am J au av;obtain⟨A3,c3,rfl,a7,O,al⟩:=am.form;rw[aF.out];have y:=η (Bx.below (W:=((I.alloc (.cells #[] 3)).alloc (.cells (Array.replicate D.q (Value.int .i64 0)) 3)).drew) x3.out J T);have ao:w.heap.size<w3.heap.size:=θ T (τ b2 J.size))
          |(refine QaL rfl (.tmp 26) (.tmp 28) rfl I.heap.size _ [] I.heap.size A c (Qan D) o3.out r3.out rfl rfl ai.out aG b3 ?_;intro v3 w3 am J au av;obtain⟨A3,c3,rfl,a7,O,al⟩:=am.form;rw[aF.out];have y:=η (Bx.below (W:=((I.alloc (.cells (Array.replicate D.q (Value.int .i64 0)) 3)).alloc (.cells #[] 3)).drew) x4.out J T);have ao:w.heap.size<w3.heap.size:=θ T (τ b3 J.size)))
      all_goals go_wp2_with fail
      all_goals go_meet
      all_goals rw[List.nil_append]at O
      · have hx:Below I.heap.size I (I.alloc (.cells #[] 3)).drew:=(β).drew;have h4:Below I.heap.size I w3:=hx.trans J;exact Qno.of (w4:=w3.alloc (.cells (Array.replicate D.q (Value.int .i64 0)) 3)) (IB.newz w3 D.q) ((O.alloc ρ _).more (by simp)) (fun b hb=>by have:=(al b hb).2;omega) (h4.alloc h4.size _) h4.size (by simp)
      · have hx:Below I.heap.size I ((I.alloc (.cells #[] 3)).alloc (.cells (Array.replicate D.q (Value.int .i64 0)) 3)).drew:=((β).alloc (by simp) _).drew;have h4:Below I.heap.size I w3:=hx.trans J;have hz:IB ((I.alloc (.cells #[] 3)).alloc (.cells (Array.replicate D.q (Value.int .i64 0)) 3)).drew (I.heap.size+1) (List.replicate D.q 0):=by
          have:=IB.newz (I.alloc (.cells #[] 3)) D.q;rw[World.size_alloc]at this;exact this
        refine Qno.of (w4:=w3) (gl:=I.heap.size+1) (hz.kept au (by simp[Value.ownBlock])) O (fun b hb=>?_) h4 (Nat.le_succ _) rfl;subst hb;rcases av with h5 |h5
        · have:b.block=I.heap.size:=by simpa [Value.ownBlock] using h5
          omega
        · have:=h5 b.block rfl;simp at this;omega
      · have hx:Below I.heap.size I ((I.alloc (.cells (Array.replicate D.q (Value.int .i64 0)) 3)).alloc (.cells #[] 3)).drew:=((β).alloc (by simp) _).drew;have h4:Below I.heap.size I w3:=hx.trans J;have hz:IB ((I.alloc (.cells (Array.replicate D.q (Value.int .i64 0)) 3)).alloc (.cells #[] 3)).drew I.heap.size (List.replicate D.q 0):=(IB.newz I D.q).alloc _;refine Qno.of (w4:=w3) (gl:=I.heap.size) (hz.kept au (by simp[Value.ownBlock])) O (fun b hb=>?_) h4 ρ rfl;subst hb;rcases av with h5 |h5
        · have:b.block=I.heap.size+1:=by simpa [Value.ownBlock] using h5
          omega
        · have:=h5 b.block rfl;simp at this;omega
    case rest =>
      obtain⟨g,gl,A3,c3,rfl,hg,bs,bt,bu,U,J,V,O,al⟩:=hcut;have bK:D.q - 1≤255:=by omega
      obtain⟨F,bv,aI⟩:∃ F:FD,∃ h:F.z=D,F.g=h ▸ u:=⟨Qvk D u hu,rfl,rfl⟩;subst bv;replace aI:F.g=u:=aI;subst aI;replace V:=η V;have bL:=J;clear hu bc bf ac aC aK aL aM;go_wp2_with fail;go_loopw [39,7,8] (fun i _ _ wr=>∃ k:Nat,k≤F.q - 1∧i=.int .i64 k∧IB wr gl (Qrf F k)∧Hid (wr.heap[g]?=some (.cells #[.int .i64 F.p,.int .i64 F.m,.slice A3 F.mod.length c3,.int .i64 F.q,.slice (some ⟨be,oe,none⟩) (F.q - 1) cv,.slice (some ⟨gl,0,none⟩) F.q F.q] 127 (0,0))) ∧
         Below I.heap.size I wr∧Rd wr wr.heap.size A3 (Qan F.z)∧g<wr.heap.size) (fun i _ _ _=>F.q - 1 - (intOf i).toNat)
      case atStart=>exact⟨0,by omega,rfl,by rw[Qkf];exact U,V,J,O,bt⟩
      case round =>
        clear V U J O;obtain⟨k,hk,rfl,U,V,J,O,a8⟩:=hrel;by_cases aP:k<F.q - 1
        · have a2:=(J.cell (p:=⟨be,oe+k,none⟩) a6).trans (ah.out k aP);rw[show (pwl F.g (F.q - 1))[k]?.getD 0=ci (pw F.g k) from Qas _ aP]at a2;have a3:=Qa8 (pw F.g k);have bm:=Qeu (pw F.g k);obtain⟨y,hy⟩:=Int.eq_ofNat_of_zero_le a3;have aJ:y=QaA (pw F.g k):=by unfold ci at hy;omega
          have bo:y<F.q:=by omega
          rw[hy]at a2;have hc:=U.cell (i:=y) (by unfold Qrf;rw[Qab];exact bo);have hf:=U.frozen y;have bO:wr.cell? ⟨g,5,none⟩=some (.slice (some ⟨gl,0,none⟩) F.q F.q):=by rw[cell_of_row wr g 5 _ _ _ V.out];rfl
          have ap:=U.set_ y (k:Int);rw[aJ,Qmf F aP,←aJ]at ap;replace ap:=η ap;clear hy aJ a3 bm U;have bP:(k:Int)<((F.q - 1:Nat):Int):=by omega
          go_wp2_with fail;go_roundw
          case rel=>exact⟨k+1,by omega,by go_num,ap.out,(Below.heap_setCell _ _ _ _ bu).trans V.out,J.setCell (p:=⟨gl,y,none⟩) bs _,fun hn=>by
            obtain⟨b,bw,e,bx,X⟩:=O hn;exact⟨b,bw,e,by simpa [World.setCell] using bx,fun j hj=>(World.cell?_setCell_other _ _ _ _ (fun e2=>by
              have h8:=al _ e;have h9:=congrArg Addr.block e2;exact h8 (by first |exact h9 |exact h9.symm))).trans (X j hj)⟩,by simpa [World.setCell] using a8⟩
          case measure=>simp[intOf];omega
        · obtain rfl:k=F.q - 1:=by omega
          rw[Qkg]at U;go_wp2_with fail;go_ret2;have X:=fun i=>cell_of_row wr g i _ _ _ V.out
          refine⟨aB.trans (J.mono (Nat.le_of_lt T)),.inl ⟨g,F,rfl,rfl,by omega,a8,?_,?_,⟨A3,c3,?_,O⟩,?_,⟨some ⟨be,oe,none⟩,cv,?_,fun hn=>⟨be,oe,rfl,by have:=J.size;omega,fun j hj=>?_⟩⟩,⟨some ⟨gl,0,none⟩,F.q,?_,U.rd⟩⟩⟩
          · rw[X];rfl
          · rw[X];rfl
          · rw[X];rfl
          · rw[X];rfl
          · rw[X];rfl
          · have bq:j<F.q - 1:=by rw[show (QqI F).length=F.q - 1 from Qab _ _]at hj;exact hj
            exact (J.cell (p:=⟨be,oe+j,none⟩) a6).trans (ah.out j bq)
          · rw[X];rfl
  · go_wp2_with fail;go_ret2;exact⟨aB,.inr ⟨bA,rfl⟩⟩
end
end Go.Proofs
