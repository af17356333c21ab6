/- The program's Pow. The reference's power. -/
import Derived.LoopIn
import Derived.LoopNIn
import Derived.OwnWalkIn
import Derived.RangeFuncBound
import Derived.RangeFuncBox
import Derived.RangeFuncLeaves
import Derived.RangeFuncNested
import Derived.Shelf.Abstract
import Derived.Shelf.RegionOpen
import Derived.TacticsInMore
import Derived.Test.YtogfekjbpcfgmaaGreatZtkSolW
set_option maxRecDepth 100000
set_option maxHeartbeats 16000000
set_option linter.unusedVariables false
namespace Go.Proofs
open Go.RowKit Cw
section
theorem QrA (D:FD)(x:Int)(n:Nat)(g:Nat)(w:World)(J:GF w w.heap.size g D)(aM:1≤n)(aN:n≤65536) :
  Calls Tryz.prog 229 #[.pointer (some ⟨g,0,none⟩),.int .i64 x,.int .i64 n] w fun e w'=>e=.returned (.tuple #[.int .i64 (ci (pw (eli D.z x) n)),.int .i64 0])∧Below w.heap.size w w':=by
 have an:=D.q2;have ao:=D.q256;have O:=QeA D x g w J;generalize eli D.z x=u at *;replace O:=η O;have c3:=J.c3;obtain⟨Ae,ce,c4,re⟩:=J.ex;obtain⟨Al,cl,c5,rl⟩:=J.lo;clear J;have ad:=Qa8 u;have aq:=Qeu u;have aO:((n:Int)==0)=false:=by rw[beq_eq_false_iff_ne];omega
 by_cases I:u=0
 ·have hb:(ci u==0)=true:=by rw[beq_iff_eq];exact Qaq.2 I
  have ar:Hid (ci (pw u n)=0):=by unfold Hid;rw[I,Qe5 (by omega),QaF]
  clear I;go_enter Tryz.func229,Tryz.ntmps229;go_wp2_with fail;refine O.out.mono ?_;rintro e w1 ⟨rfl,rfl⟩;go_wp2_with fail;go_ret2;exact⟨by rw[ar.out];rfl,κ⟩
 ·have hb:(ci u==0)=false:=by rw[beq_eq_false_iff_ne];exact fun h=>I (Qaq.1 h)
  obtain⟨a,ha⟩:=Int.eq_ofNat_of_zero_le ad;have Y:a<D.q:=by omega
  have af:rel D.z a=u:=by rw[←QaT u];congr 1;unfold ci at ha;omega
  have aa:(lgl D).length=D.q:=Qab _ _;obtain⟨bl,ol,rfl,a4,ak⟩:=rl (by rw[aa];omega);have ab:(QqI D).length=D.q - 1:=Qab _ _;obtain⟨be,oe,rfl,a7,al⟩:=re (by rw[ab];omega);have ag:=ak a (by rw[aa];exact Y);rw[show (lgl D)[a]?.getD 0=(lg D u:Nat) by unfold lgl;rw[Qas _ Y,af]]at ag;obtain⟨i,U⟩:=ε (lg D u);have au:i<D.q - 1:=by rw[U];exact Qnm _ _
  rw[←U]at ag;obtain⟨k,hk⟩:∃k,D.q=k+1:=⟨D.q - 1,by omega⟩;have aP:1≤k:=by omega
  have aQ:k≤255:=by omega
  obtain⟨r,V⟩:=ε (n % k);have aR:r<k:=by rw[V];exact Nat.mod_lt _ (by omega)
  obtain⟨t,X⟩:=ε (i*r);have aS:t≤65536:=by rw[X];exact Nat.mul_le_mul (show i≤256 by omega) (show r≤256 by omega)
  obtain⟨z,hz⟩:=ε (t % k);have aT:z<k:=by rw[hz];exact Nat.mod_lt _ (by omega)
  have ah:=al z (by rw[ab];omega);rw[show (QqI D)[z]?.getD 0=ci (pw D.g z) from Qas _ (by omega)]at ah;have T:D.q - 1=k:=by omega
  have ai:pw D.g z=pw u n:=by
   have h1:=QdE (F:=R D.z) t;have h2:pw D.g z=pw D.g t:=by rw[hz,←T];exact h1
   have h3:=QsE (F:=R D.z) I n;have h4:pw u r=pw u n:=by rw[V,←T];exact h3
   rw[h2,X,Qcp,U,Qnn D I,h4]
  rw[ai]at ah;rw[ha]at hb O;rw[T]at c4;rw[hk]at c3 c5;have az:Hid ((n:Int) % (k:Int)=(r:Int)):=by unfold Hid;rw[V];rfl
  have aj:Hid (((r:Int)+(k:Int)) % (k:Int)=(r:Int)):=by
   unfold Hid;rw[Int.add_emod_right];exact Int.emod_eq_of_lt (by omega) (by omega)
  have aA:Hid ((i:Int)*(r:Int)=(t:Int)):=by unfold Hid;rw[X,Int.natCast_mul]
  have aB:Hid ((t:Int) % (k:Int)=(z:Int)):=by unfold Hid;rw[hz];rfl
  have aU:a<k+1:=by omega
  have aV:i<k:=by omega
  clear ak al ha U af ai I ab aa T V X hz hk an ao ad aq Y au;have aC:=az.out;have aD:=aj.out;go_enter Tryz.func229,Tryz.ntmps229;go_wp2_with fail;refine O.out.mono ?_;rintro e w1 ⟨rfl,rfl⟩;go_wp2_with fail;clear aC aD;rw[aj.out];have i1:(a:Int)<(k:Int)+1:=by omega
  have i3:(0:Int)≤(t:Int):=by omega
  have i4:(z:Int)<(k:Int):=by omega
  have aY:¬ k=0:=by omega
  have e1:=aA.out;have e2:IntKind.i64.wrap (t:Int)=(t:Int):=IntWalk.i64_in _ (by omega);have e3:(t:Int).tmod (k:Int)=(z:Int):=(Int.tmod_eq_emod_of_nonneg i3).trans aB.out;go_quiet (fail);clear e1 e2 e3;go_wp2_with fail;go_ret2;exact⟨rfl,Qbj κ _⟩
end
section
open Cw.CField (inv)
theorem Qt8 (D:FD)(x:Int)(n:Nat)(A:Option Addr)(c:Nat)(w:World)(O:Rd w w.heap.size A (Qan D.z))(aw:1≤n)(ax:n≤4294967296) :
  Calls Tryz.prog 223 #[.agg #[.int .i64 D.p,.int .i64 D.m,.slice A D.mod.length c],.int .i64 x,.int .i64 n] w fun e w' =>
   e=.returned (.tuple #[.int .i64 (ci (pw (eli D.z x) n)),.int .i64 0])∧Below w.heap.size w w':=by
 have al:=D.q2;have am:=D.q256;have ay:=D.p256;have az:=D.m8;have hM:=fun y z w (O:Rd w w.heap.size A (Qan D.z))=>η (Qdb D.z y z A c w O)
 have hI:=fun w=>η (Qka D.z x A D.mod.length c w)
 have hO:=fun w=>η (QdI D.p D.m A D.mod.length c w (by omega) (by omega))
 have T:=Qi6 D.z;obtain⟨k,hk⟩:∃k,D.q=k+1:=⟨D.q - 1,by omega⟩;rw[hk]at T;have T:=η T;generalize eli D.z x=u at *;have ap:=Bx.new w D.z A D.mod.length c 24;have aA:((n:Int)==0)=false:=by rw[beq_eq_false_iff_ne];omega
 by_cases I:u=0
 ·have ad:ci u=0:=Qaq.2 I;have V:Hid (ci (pw u n)=0):=by unfold Hid;rw[I,Qe5 (by omega),QaF]
  clear I;go_enter Tryz.func223,Tryz.ntmps223;go_wp2_with fail;refine (hI _).out.mono ?_;rw[ad];rintro e w1 ⟨rfl,J⟩;go_wp2_with fail;go_ret2;exact⟨by rw[V.out];rfl,(β).trans (J.mono (by simp))⟩
 ·have ad:(ci u==0)=false:=by rw[beq_eq_false_iff_ne];exact fun h=>I (Qaq.1 h)
  have V:Hid (pw u (n % k)=pw u n):=by
   have h:=QsE I n
   show pw u (n % k)=_
   rw[show k=FF.q (R D.z) - 1 by show k=D.q - 1;omega];exact h
  have aB:1≤k:=by omega
  have aC:k≤255:=by omega
  have aD:=Nat.mod_lt n (show 0<k by omega);clear I hk al am;go_enter Tryz.func223,Tryz.ntmps223;go_wp2_with fail;refine (hI _).out.mono ?_;rintro e w1 ⟨rfl,J⟩;have ae:=ap.below J (by simp);have X:=ae;obtain⟨ah,ai,aj⟩:=X;have aq:=J.size;simp only[World.size_alloc]at aq;go_wp2_with fail;refine (hO _).out.mono ?_;rw[T.out];rintro e w2 ⟨rfl,aa⟩;have ar:=ae.below aa (by omega);have aE:=aa.size;have af:Below w.heap.size w w2:=((β).trans (J.mono (by simp))).trans (aa.mono (by omega));clear ah ai aj;go_wp2_with fail;rw[show ((n:Int) % (k:Int)+(k:Int)) % (k:Int)=((n % k:Nat):Int) by rw[Int.add_emod_right,Int.emod_emod_of_dvd _ (Int.dvd_refl _)];rfl];generalize n % k=r at *;have aF:=O.below af;go_loopw [9,10] (fun o i wr=>∃j:Nat,j≤r∧i=.int .i64 j∧o=.int .i64 (ci (pw u j))∧Bx wr w.heap.size D.z A D.mod.length c∧Below w.heap.size w wr∧w.heap.size<wr.heap.size) (fun _ i _=>r - (intOf i).toNat)
  case atStart=>exact⟨0,by omega,rfl,by rw[QbK,Qei],ar,af,by omega⟩
  case round =>
   obtain⟨j,hj,rfl,rfl,ak,Y,au⟩:=hrel;have X:=ak;obtain⟨ah,ai,aj⟩:=X;by_cases aH:j<r
   ·have U:=hM (ci (pw u j)) (ci u) wr ((O.below Y).more (by omega));rw[Qam,Qam]at U;have U:=η U.out;go_wp2_with fail;refine U.out.mono ?_;rintro e w3 ⟨rfl,ab⟩;go_wp2_with fail;go_roundw
    case rel=>exact⟨j+1,by omega,by go_num,rfl,ak.below ab au,Y.trans (ab.mono (by omega)),by have:=ab.size;omega⟩
    case measure=>simp[intOf];omega
   ·obtain rfl:j=r:=by omega
    go_wp2_with fail;go_ret2;exact⟨by rw[←V.out];rfl,Y⟩
end
section
theorem Qpx (D:FD)(x:Int)(k:Nat)(A:Option Addr)(c:Nat)(w:World)(J:Rd w w.heap.size A (Qan D.z))(hk:k≤4294967296) :
  Calls Tryz.prog 194 #[.agg #[.int .i64 D.p,.int .i64 D.m,.slice A D.mod.length c],.int .i64 x,.int .i64 k] w fun e w' =>
   e=.returned (.int .i64 (ci (QaO k (eli D.z x))))∧Below w.heap.size w w':=by
 have ai:=D.p2;have aj:=D.p256;have ak:=D.m8;have X:=fun w=>η (Qka D.z x A D.mod.length c w)
 have Y:=fun y w (J:Rd w w.heap.size A (Qan D.z))=>η (Qt8 D y D.p A c w J (by omega) (by omega))
 generalize eli D.z x=u at *;have aa:=Bx.new w D.z A D.mod.length c 24;go_enter Tryz.func194,Tryz.ntmps194;go_wp2_with fail;refine (X _).out.mono ?_;rintro e w1 ⟨rfl,T⟩;have ab:=aa.below T (by simp);have ac:=T.size;simp only[World.size_alloc]at ac;have ad:Below w.heap.size w w1:=(β).trans (T.mono (by simp));go_wp2_with fail;go_loopw [1,7] (fun o i wr=>∃j:Nat,j≤k∧i=.int .i64 j∧o=.int .i64 (ci (QaO j u))∧Bx wr w.heap.size D.z A D.mod.length c∧Below w.heap.size w wr∧w.heap.size<wr.heap.size) (fun _ i _=>k - (intOf i).toNat)
 case atStart=>exact⟨0,by omega,rfl,by rw[Qa7],ab,ad,by omega⟩
 case round =>
  obtain⟨j,hj,rfl,rfl,V,O,ag⟩:=hrel;have kc:=V;obtain⟨am,an,ao⟩:=kc;by_cases ap:j<k
  ·have I:=Y (ci (QaO j u)) wr ((J.below O).more (by omega));rw[Qam]at I;have I:=η I.out;have af:Hid (pw (QaO j u) D.p=QaO (j+1) u):=(QdF j u).symm;go_wp2_with fail;refine I.out.mono ?_;rw[af.out];rintro e w3 ⟨rfl,U⟩;go_wp2_with fail;go_roundw
   case rel=>exact⟨j+1,by omega,by go_num,rfl,V.below U ag,O.trans (U.mono (by omega)),by have:=U.size;omega⟩
   case measure=>simp[intOf];omega
  ·obtain rfl:j=k:=by omega
   go_wp2_with fail;go_ret;exact⟨rfl,O⟩
def Qia (m:Nat)(d:Int):Bool:=decide (1≤d∧d≤(m:Int)∧(m:Int) % d=0)
theorem QeQ {m:Nat} {d:Int} (h:Qia m d=true):∃k:Nat,d=k∧1≤k∧k≤m∧k∣m:=by
 have h:=of_decide_eq_true h;obtain⟨k,rfl⟩:=Int.eq_ofNat_of_zero_le (show 0≤d by omega);refine⟨k,rfl,by omega,by omega,?_⟩;exact Int.natCast_dvd_natCast.1 (Int.dvd_of_emod_eq_zero h.2.2)
theorem Qpy {m k:Nat} (O:1≤k)(I:k∣m)(J:1≤m):Qia m k=true :=
 decide_eq_true ⟨by omega,by have:=Nat.le_of_dvd J I;omega,Int.emod_eq_zero_of_dvd (Int.natCast_dvd_natCast.2 I)⟩
end
section
open Cw.CField (inv)
noncomputable def QcG {D:FD} (d:Nat)(u:R D.z)(n:Nat):List Int:=lst n fun i=>ci (QaO (d*i) u)
theorem QnC (D:FD)(x:Int)(d:Nat)(A:Option Addr)(c:Nat)(w:World)(J:Rd w w.heap.size A (Qan D.z))(aq:1≤d)(aa:d≤8) :
  Calls Tryz.prog 140 #[.agg #[.int .i64 D.p,.int .i64 D.m,.slice A D.mod.length c],.int .i64 x,.int .i64 d] w fun e w' =>
   e=.returned (.int .i64 (ci (tr d (eli D.z x))))∧Below w.heap.size w w':=by
 have ar:=D.p2;have au:=D.p256;have ag:=D.m8;have hF:∀ (j:Nat) (w:World),Rd w w.heap.size A (Qan D.z)→j≤8→Hid (Calls Tryz.prog 194 #[.agg #[.int .i64 D.p,.int .i64 D.m,.slice A D.mod.length c],.int .i64 x,.int .i64 ((d:Int)*(j:Int))] w fun e w' =>
   e=.returned (.int .i64 (ci (QaO (d*j) (eli D.z x))))∧Below w.heap.size w w'):=fun j w J hj=>by
  have h:=Qpx D x (d*j) A c w J (by have:=Nat.mul_le_mul aa hj;omega);rw[Int.natCast_mul]at h;exact h
 have hA:=fun y z w=>η (Qd7 D.z y z A D.mod.length c w)
 have hN:D.m / d≤8:=τ (Nat.div_le_self _ _) ag;obtain⟨N,O⟩:=ε (D.m / d);rw[←O]at hN;have av:(D.m:Int) / (d:Int)=(N:Int):=by rw[O];rfl
 have ak:∀u:R D.z,Hid (Qat N (fun i=>QaO (d*i) u)=tr d u):=fun u=>by unfold Hid tr;rw[O];rfl
 clear O;generalize eli D.z x=u at *;have al:=Bx.new w D.z A D.mod.length c 24;go_enter Tryz.func140,Tryz.ntmps140;go_wp2_with fail;go_loopw [7,8] (fun o i wr=>∃j:Nat,j≤N∧i=.int .i64 j∧o=.int .i64 (ci (Qat j (fun i=>QaO (d*i) u)))∧Bx wr w.heap.size D.z A D.mod.length c∧Below w.heap.size w wr∧w.heap.size<wr.heap.size) (fun _ i _=>N - (intOf i).toNat)
 case atStart=>exact⟨0,by omega,rfl,by rw[QaG,QaF],al,β,by simp⟩
 case round =>
  obtain⟨j,hj,rfl,rfl,U,V,I⟩:=hrel;have kc:=U;obtain⟨ay,az,aA⟩:=kc;by_cases aE:j<N
  ·obtain⟨aB,aC⟩:(0:Int)≤(d:Int)*(j:Int)∧(d:Int)*(j:Int)≤64:=by
    have h1:=Nat.mul_le_mul aa (show j≤8 by omega);have h2:((d*j:Nat):Int)=(d:Int)*(j:Int):=by simp
    omega
   have an:=fun w J=>hF j w J (by omega)
   have ab:=hA (ci (Qat j fun i=>QaO (d*i) u)) (ci (QaO (d*j) u));rw[Qam,Qam]at ab;have ac:=η U;have ao:=η ((J.below V).more (Nat.le_of_lt I));have ew:IntKind.i64.wrap ((d:Int)*(j:Int))=(d:Int)*(j:Int):=IntWalk.i64_in _ (by omega);clear U;go_wp2_with fail;go_region_held3 (fun w'=>w'.cell? ⟨w.heap.size,0,none⟩=some (.int .i64 D.p)∧w'.cell? ⟨w.heap.size,1,none⟩=some (.int .i64 D.m)∧w'.cell? ⟨w.heap.size,2,none⟩=some (.slice A D.mod.length c)) (first |exact ac.out |exact ad.out |exact ae.out)
    (first
     |(go_at_call 194;refine (an _ ao.out.drew).out.mono ?_;rintro e w1 ⟨rfl,X⟩;have ad:=η (ac.out.drew.below X I);have T:=X.size)
     |(go_at_call 118;refine (ab _).out.mono ?_;rintro e w2 ⟨rfl,Y⟩;have ae:=η (ad.out.below Y (θ I T))))
   clear ew;go_wp2_with fail;go_roundw
   case rel=>exact⟨j+1,by omega,by go_num,rfl,ae.out,V.drew.trans ((X.mono (Nat.le_of_lt I)).trans (Y.mono (τ (Nat.le_of_lt I) T))),θ I (τ T Y.size)⟩
   case measure=>simp[intOf];omega
  ·obtain rfl:j=N:=by omega
   go_wp2_with fail;go_ret;exact⟨Qa2 (by rw[(ak u).out]),V⟩
end
section
theorem Qc6 (D:FD)(g:Nat)(w:World)(I:GF w w.heap.size g D) :
  Calls Tryz.prog 168 #[.pointer (some ⟨g,0,none⟩)] w fun e w'=>e=.returned (.tuple #[.int .i64 D.p,.int .i64 D.m])∧Below w.heap.size w w':=by
 have O:=η (QdJ D g w I);clear I;go_enter Tryz.func168,Tryz.ntmps168;go_wp2_with fail;refine O.out.mono ?_;rintro e w1 ⟨U,V,rfl,X,Y,J⟩;have T:=J.size;go_wp2_with fail;go_quiet (fail);go_wp2_with fail;go_ret2;exact⟨rfl,Qbj (J.alloc T _) _⟩
theorem QcN (D:FD)(d:Int)(g:Nat)(w:World)(U:GF w w.heap.size g D) :
  Calls Tryz.prog 164 #[.pointer (some ⟨g,0,none⟩),.int .i64 d] w fun e w'=>e=.returned (.bool (Qia D.m d))∧Below w.heap.size w w':=by
 have aa:=D.m8;have T:=η (Qc6 D g w U);clear U;by_cases V:1≤d
 ·by_cases X:d≤D.m
  ·by_cases O:(D.m:Int) % d=0
   ·have Y:((D.m:Int) % d==0)=true:=beq_iff_eq.2 O;have I:Hid (Qia D.m d=true):=decide_eq_true ⟨V,X,O⟩;clear O;go_enter Tryz.func164,Tryz.ntmps164;go_wp2_with (go_at_call 168;refine T.out.mono ?_;rintro e w1 ⟨rfl,J⟩);go_ret;exact⟨QaB I.out.symm,J⟩
   ·have Y:((D.m:Int) % d==0)=false:=beq_eq_false_iff_ne.2 O;have I:Hid (Qia D.m d=false):=decide_eq_false fun h=>O h.2.2
    clear O;go_enter Tryz.func164,Tryz.ntmps164;go_wp2_with (go_at_call 168;refine T.out.mono ?_;rintro e w1 ⟨rfl,J⟩);go_ret;exact⟨QaB I.out.symm,J⟩
  ·have I:Hid (Qia D.m d=false):=decide_eq_false fun h=>X h.2.1
   go_enter Tryz.func164,Tryz.ntmps164;go_wp2_with (go_at_call 168;refine T.out.mono ?_;rintro e w1 ⟨rfl,J⟩);go_ret;exact⟨QaB I.out.symm,J⟩
 ·have I:Hid (Qia D.m d=false):=decide_eq_false fun h=>V h.1
  go_enter Tryz.func164,Tryz.ntmps164;go_wp2_with (go_at_call 168;refine T.out.mono ?_;rintro e w1 ⟨rfl,J⟩);go_ret;exact⟨QaB I.out.symm,J⟩
def QrB (m:Nat)(k:Int):Nat:=(k % (m:Int)).toNat
theorem Qt9 {m:Nat} (O:1≤m)(k:Int):(k.tmod m+m).tmod m=(QrB m k:Int):=by
 have I:(0:Int)<m:=by omega
 have J:=Int.emod_nonneg k (show (m:Int)≠0 by omega);have T:=Int.emod_lt_of_pos k I;have e:(QrB m k:Int)=k % (m:Int):=Int.toNat_of_nonneg J;rw[e];have U:=Int.lt_tmod_of_pos k I;rw[Int.tmod_eq_emod_of_nonneg (by omega),Int.add_emod_right];rw[Int.tmod_eq_emod]
 split <;> simp
theorem Qkl (D:FD)(x k:Int)(g:Nat)(w:World)(I:GF w w.heap.size g D)(_hk1:-9223372036854775808≤k)(_hk2:k≤9223372036854775807) :
  Calls Tryz.prog 210 #[.pointer (some ⟨g,0,none⟩),.int .i64 x,.int .i64 k] w fun e w'=>e=.returned (.int .i64 (ci (QaO (QrB D.m k) (eli D.z x))))∧Below w.heap.size w w':=by
 have al:=D.m8;have Y:=D.m1;have am:=D.p2;have an:=D.p256;have V:=η (Qc6 D g w I);have X:=Qt9 Y k;have ao:QrB D.m k≤8:=by
  have h3:=Int.emod_lt_of_pos k (show (0:Int)<D.m by omega);unfold QrB;omega
 have hW:=fun y W I=>η (QrA D y D.p g W I (by omega) (by omega))
 have hA:=fun y W I=>η (Qcf D y 0 g W I)
 have ac:=Int.lt_tmod_of_pos k (show (0:Int)<D.m by omega);have ad:k.tmod D.m<D.m:=Int.tmod_lt_of_pos k (by omega);generalize QrB D.m k=K at *;go_enter Tryz.func210,Tryz.ntmps210;go_wp2_with fail;refine V.out.mono ?_;rintro e w1 ⟨rfl,U⟩;go_wp2_with fail
 have ae:=U.size;have af:=(I.below U).more ae;replace X:=η X;clear ac ad V;go_loopw [1,21,23] (fun y i _ wr=>∃j:Nat,∃z:Int,j≤K∧i=.int .i64 j∧y=.int .i64 z∧Hid (eli D.z z=QaO j (eli D.z x))∧Below w.heap.size w wr∧Hid (GF wr wr.heap.size g D)) (fun _ i _ _=>K - (intOf i).toNat)
 case atStart=>exact⟨0,x,by omega,rfl,rfl,(Qa7 _).symm,U,af⟩
 case round =>
  obtain⟨j,z,hj,rfl,rfl,hz,O,T⟩:=hrel;by_cases ar:j<K
  ·have ag:=η (hW z wr T.out).out;have ah:Hid (eli D.z (ci (pw (eli D.z z) D.p))=QaO (j+1) (eli D.z x)):=by
    unfold Hid;rw[Qam,hz.out];exact (QdF j _).symm
   go_wp2_with fail;refine ag.out.mono ?_;rintro e w2 ⟨rfl,J⟩;go_wp2_with fail;go_roundw
   case rel=>exact⟨j+1,_,by omega,by go_num,rfl,ah,ζ O J,T.out.bm J⟩
   case measure=>simp[intOf];omega
  ·obtain rfl:j=K:=by omega
   have ai:=η (hA z wr T.out).out;have aj:Hid (ci (eli D.z z+eli D.z 0)=ci (QaO j (eli D.z x))):=by
    unfold Hid;rw[QbC,Qad,hz.out]
   go_wp2_with fail;refine ai.out.mono ?_;rintro e w2 ⟨rfl,J⟩;go_wp2_with fail;go_ret;exact⟨Qa2 aj.out,ζ O J⟩
end
section
theorem QrC (m d:Nat):QrB m (d:Int)=d % m:=by
 unfold QrB;rw[←Int.natCast_emod];exact Int.toNat_natCast _
theorem Qhu (D:FD)(d:Nat)(u:R D.z):QaO (QrB D.m (d:Int)) u=QaO d u:=by
 rw[QrC];exact QqT (F:=R D.z) d u
theorem Qhv (D:FD)(x:Int)(d:Nat)(g:Nat)(w:World)(O:GF w w.heap.size g D)(av:1≤d)(aw:d≤8) :
  Calls Tryz.prog 165 #[.pointer (some ⟨g,0,none⟩),.int .i64 x,.int .i64 d] w fun e w' =>
   ∃J,e=.returned (.slice (some ⟨J,0,none⟩) (D.m / d) (D.m / d))∧w.heap.size≤J∧IB w' J (QcG d (eli D.z x) (D.m / d))∧Below w.heap.size w w':=by
 have al:=D.m8;have ax:=D.m1;have hN:D.m / d≤8:=τ (Nat.div_le_self _ _) al;obtain⟨N,ac⟩:=ε (D.m / d);rw[←ac]at hN ⊢;have an:(D.m:Int) / (d:Int)=(N:Int):=by rw[ac];rfl
 have ao:=QaC N (by omega);have hP:=η (Qc6 D g w O);have hF:=fun y W O=>η (Qkl D y d g W O (by omega) (by omega))
 have hA:=fun W O=>η (Qcf D x 0 g W O)
 generalize hu:eli D.z x=u at *;rw[QbC,Qad]at hA;clear hu ac;go_enter Tryz.func165,Tryz.ntmps165;go_wp2_with fail;refine hP.out.mono ?_;rintro e w1 ⟨rfl,T⟩;have af:=O.bm T;go_wp2_with fail;have ag:=hA (w1.alloc (.cells (Array.replicate N (Value.int .i64 0)) 3)) ((af.below (β)).more (by simp));refine ag.out.mono ?_;rintro e w2 ⟨rfl,ad⟩;obtain⟨J,Y⟩:=ε (w1.heap.size);have I:IB w2 J (upd N 0 (fun i=>ci (QaO (d*i) u))):=by
  rw[QaP,Y];exact (IB.newz w1 N).below ad (by simp)
 have ab:Below w.heap.size w w2:=(T.alloc T.size _).trans (ad.mono (by have:=T.size;simp;omega));have ay:=O.bm ab;have ah:w.heap.size≤J:=by rw[Y];exact T.size
 rw[←Y];clear Y ag hA hP ao T ad af;go_wp2_with fail;clear an;go_loopw [26,11,10] (fun i _ y wr=>∃k:Nat,k≤N∧i=.int .i64 k∧y=.int .i64 (ci (QaO (d*k) u))∧IB wr J (upd N k (fun i=>ci (QaO (d*i) u)))∧Below w.heap.size w wr) (fun i _ _ _=>N - (intOf i).toNat)
 case atStart=>exact⟨0,by omega,rfl,by rw[Nat.mul_zero,Qa7],I,ab⟩
 case round =>
  clear I;obtain⟨k,hk,rfl,rfl,I,ai⟩:=hrel;by_cases au:k<N
  ·have hc:=I.cell (i:=k) (by rw[Qaz];exact au);have hf:=I.frozen k;have U:=I.set_ k (ci (QaO (d*k) u));rw[QaY N k (fun i=>ci (QaO (d*i) u))]at U;replace U:=η U;have V:Below w.heap.size w (wr.setCell ⟨J,k,none⟩ (.int .i64 (ci (QaO (d*k) u)))):=ai.setCell (p:=⟨J,k,none⟩) ah _;have X:=(hF (ci (QaO (d*k) u)) _ (O.bm V)).out;rw[Qam,Qhu,Qbz,show d+d*k=d*(k+1) by rw[Nat.mul_succ];omega]at X;replace X:=η X;have aq:=I.lt;clear I;go_wp2_with fail;refine X.out.mono ?_;rintro e w3 ⟨rfl,ak⟩;go_wp2_with fail;go_roundw
   case rel=>exact⟨k+1,by omega,by go_num,rfl,U.out.below ak (by simpa [World.setCell] using aq),ζ V ak⟩
   case measure=>simp[intOf];omega
  ·obtain rfl:k=N:=by omega
   rw[QaR]at I;go_wp2_with fail;go_ret;exact⟨J,rfl,ah,I,ai⟩
end
section
open Go.Shelf
def upI (k:Nat):List Int:=(List.range k).map fun i:Nat=>(i:Int)
theorem Qmu (k:Nat):upI (k+1)=upI k ++ [(k:Int)]:=by simp[upI,List.range_succ]
theorem Qhw (F:Fence)(n:Nat)(I:F.fn 211)(J:F.round=none)(g:Nat)(w:World) :
  CallsIn F n Tryz.prog 211 #[.pointer (some ⟨g,0,none⟩)] w fun e w' =>
   e=.returned (.func (.func 230) #[] #[.pointer (some ⟨w.heap.size,0,none⟩)])∧w'=w.alloc (.cells #[.pointer (some ⟨g,0,none⟩)] 66):=by
 refine callsIn_of_wp Tryz.func211 rfl I ?_ J;simp only[Tryz.ntmps211,List.size_toArray,List.length_cons,List.length_nil,Nat.reduceAdd,Nat.reduceSub,Array.replicate_succ,Array.replicate_zero,List.push_toArray,List.append_toArray,List.nil_append,List.cons_append]
 gi_wp2
 go_ret;exact⟨rfl,rfl⟩
theorem Qkm (F:Fence)(n:Nat)(X:F.fn 230)(Y:F.round=none)(hn:1≤n)(l O n₀ g:Nat)(D:FD)(J T:List Int→World→Prop)
  (hY:∀I x W,J I W→I.length<D.q→YieldAt F (n - 1) Tryz.prog l #[.int .i64 x] W fun e W' =>
   (e=.returned (.bool true)∧J (I ++ [x]) W'∧Below n₀ W W')∨(e=.returned (.bool false)∧T (I ++ [x]) W'))
  (W:World) (ah:W.cell? ⟨O,0,none⟩=some (.pointer (some ⟨g,0,none⟩))) (hq:W.cell? ⟨g,3,none⟩=some (.int .i64 D.q)) (h0:J [] W) :
  CallsIn F n Tryz.prog 230 #[.func (.yield l) #[] #[],.pointer (some ⟨O,0,none⟩)] W fun e W'=>(∃v,e=.returned v) ∧
   ((∃V,V=upI D.q∧J V W')∨(∃I,I <+: upI D.q∧T I W')):=by
 have aj:=D.q256;refine callsIn_of_wp Tryz.func230 rfl X ?_ Y;simp only[Tryz.ntmps230,List.size_toArray,List.length_cons,List.length_nil,Nat.reduceAdd,Nat.reduceSub,Array.replicate_succ,Array.replicate_zero,List.push_toArray,List.append_toArray,List.nil_append,List.cons_append]
 gi_wp2
 gi_loopw [8,3] (fun i _ wr=>∃k:Nat,k≤D.q∧i=.int .i64 k∧J (upI k) wr) (fun i _ _=>D.q - (intOf i).toNat)
 case atStart=>exact⟨0,by omega,rfl,h0⟩
 case round =>
  obtain⟨k,hk,rfl,U⟩:=hrel;by_cases af:k<D.q
  ·obtain⟨fn,tmps,am,an,hy,hR⟩:=hY (upI k) (k:Int) wr U (by simp[upI];exact af)
   gi_wp2
   refine hR.mono ?_;rintro e W3 (⟨rfl,ad,aq⟩ |⟨rfl,ae⟩)
   ·gi_wp2
    go_roundw
    case rel=>exact⟨k+1,by omega,by go_num,by rw[Qmu];exact ad⟩
    case measure=>simp[intOf];omega
   ·gi_wp2
    refine bodyPost_ret (results_none rfl _ _ _) rfl ?_;refine⟨⟨_,rfl⟩,.inr ⟨_,?_,ae⟩⟩;rw[←Qmu];obtain⟨t,ht⟩:∃t,D.q=k+1+t:=⟨D.q - k - 1,by omega⟩;rw[ht];exact⟨(List.range t).map fun i:Nat=>((k+1+i:Nat):Int),by
     unfold upI
     conv=>rhs;rw[List.range_add,List.map_append,List.map_map]
     rfl⟩
  ·obtain rfl:k=D.q:=by omega
   gi_wp2
   go_end0;exact⟨⟨_,rfl⟩,.inl ⟨_,rfl,U⟩⟩
theorem QeZ (F:Fence)(n:Nat)(T:F.fn 230)(U:F.round=none)(V:1≤n)(I n₀ g:Nat)(D:FD)(w:World)(X:I<w.heap.size)(Y:n₀≤w.heap.size)(aa:g<n₀)
  (hc:w.cell? ⟨I,0,none⟩=some (.pointer (some ⟨g,0,none⟩))) (hq:w.cell? ⟨g,3,none⟩=some (.int .i64 D.q)) :
  SeqStopsK F n Tryz.prog 230 #[.pointer (some ⟨I,0,none⟩)] (fun x:Int=>#[Value.int .i64 x]) (Below n₀) (fun ys=>ys=upI D.q) (fun ae=>ae <+: upI D.q) D.q w:=fun l J Jx W O _ _ hY h0 =>
 Qkm F n T U V l I n₀ g D J Jx hY W ((O.cell (p:=⟨I,0,none⟩) X).trans hc) ((O.cell (p:=⟨g,3,none⟩) (θ aa Y)).trans hq) h0
end
section
open Go.Shelf
def Qib {D:FD} (d:Nat)(u:R D.z)(n:Nat):Prop:=1≤n∧QaO (d*n) u=u∧∀j,1≤j→j<n→QaO (d*j) u≠u
theorem Qib.dvd {D:FD} {d n:Nat} {u:R D.z} (h:Qib d u n){k:Nat} (I:QaO (d*k) u=u):n∣k:=by
 have J:QaO (d*(k % n)) u=u:=by
  have e:QaO (d*(k % n)) (QaO (d*n*(k / n)) u)=QaO (d*k) u:=by
   rw[Qbz,Nat.mul_assoc,←Nat.mul_add,Nat.mod_add_div]
  rw[QcM h.2.1,I]at e;exact e
 rcases Nat.eq_zero_or_pos (k % n) with h0 |h0
 ·exact Nat.dvd_of_mod_eq_zero h0
 ·exact absurd J (h.2.2 _ h0 (Nat.mod_lt _ h.1))
theorem Qib.dvd_M {D:FD} {d n:Nat} {u:R D.z} (h:Qib d u n)(I:d∣D.m):n∣D.m / d:=h.dvd (by
 rw[Nat.mul_div_cancel' I];exact QjR (F:=R D.z) u)
theorem Qib.uniq {D:FD} {d n n':Nat} {u:R D.z} (h:Qib d u n)(I:Qib d u n'):n=n' :=
 Nat.dvd_antisymm (h.dvd I.2.1) (I.dvd h.2.1)
def QvX:Value→Nat
 | .slice _ n _=>n
 |_=>0
theorem Own.vlen {w:World} {B:Nat} {v:Value} {l:List Int} (h:Own w B v l):QvX v=l.length:=by
 obtain⟨A,c,rfl,-⟩:=h.form;rfl
theorem Qiw {D:FD} (d:Nat)(u:R D.z)(n:Nat):QcG d u (n+1)=QcG d u n ++ [ci (QaO (d*n) u)]:=Qdo _ _
theorem Qpz {D:FD} (d:Nat)(u:R D.z):QcG d u 1=[ci u]:=by
 rw[Qiw,Nat.mul_zero,Qa7];rfl
theorem Qca {D:FD} (d:Nat)(u:R D.z)(n:Nat):(QcG d u n).length=n:=Qab _ _
theorem QpA (D:FD)(x:Int)(d:Nat)(g:Nat)(w:World)(I:GF w w.heap.size g D)(an:1≤d)(U:d∣D.m) :
  Calls Tryz.prog 219 #[.pointer (some ⟨g,0,none⟩),.int .i64 x,.int .i64 d] w fun e w'=>∃n v,Qib d (eli D.z x) n∧e=.returned (.tuple #[v,.int .i64 0])∧Own w' w.heap.size v (QcG d (eli D.z x) n)∧Below w.heap.size w w':=by
 have ao:=D.m8;have ap:=D.m1;have aI:d≤8:=τ (Nat.le_of_dvd ap U) ao;have V:=QcN D d g w I;rw[Qpy an U D.m1]at V;replace V:=η V;have hA:=fun W I=>η (Qcf D x 0 g W I)
 have hF:=fun y W I=>η (Qkl D y d g W I (by omega) (by omega))
 generalize hu:eli D.z x=u at *;rw[QbC,Qad]at hA;have X:=fun W I=>(hF (ci u) W I).out
 rw[Qam,Qhu]at X;replace X:=fun W I=>η (X W I)
 have ar:Hid (QaO (d*(D.m / d)) u=u):=by
  unfold Hid;rw[Nat.mul_div_cancel' U];exact QjR (F:=R D.z) u
 obtain⟨N,hN⟩:=ε (D.m / d);have ay:1≤N:=by rw[hN];exact Nat.div_pos (Nat.le_of_dvd ap U) an
 have aJ:N≤8:=by rw[hN];exact τ (Nat.div_le_self _ _) ao
 rw[←hN]at ar;clear hu U hN;go_enter Tryz.func219,Tryz.ntmps219;go_wp2_with fail;refine V.out.mono ?_;rintro e w1 ⟨rfl,ab⟩;have aj:=I.bm ab;go_wp2_with fail;(with_reducible refine (hA _ aj).out.mono ?_);rintro e T ⟨rfl,ah⟩;have au:=aj.bm ah;have ac:=ζ ab ah;have ak:Below w.heap.size w (T.alloc (.cells #[.int .i64 (ci u)] 3)):=ac.alloc ac.size _;have Y:GF (T.alloc (.cells #[.int .i64 (ci u)] 3)) (T.alloc (.cells #[.int .i64 (ci u)] 3)).heap.size g D:=(au.below (β)).more (by simp);have aa:Own (T.alloc (.cells #[.int .i64 (ci u)] 3)) w.heap.size (.slice (some ⟨T.heap.size,0,none⟩) 1 1) (QcG d u 1):=by
  rw[Qpz];exact Own.of_IB (IB.new T [ci u]) ac.size (by simp[maxLen])
 go_wp2_with fail;(with_reducible refine (X _ Y).out.mono ?_);rintro e w4 ⟨rfl,J⟩;have av:=ζ ak J;have aw:=aa.below J ρ;have aK:=Y.bm J;clear X hA V Y au aj ak ac aa ab ah J;go_wp2_with fail;go_loopw [8,9] (fun o y wr=>∃k:Nat,1≤k∧k≤N∧y=.int .i64 (ci (QaO (d*k) u))∧Own wr w.heap.size o (QcG d u k)∧Below w.heap.size w wr∧Hid (∀j,1≤j→j<k→QaO (d*j) u≠u)) (fun o _ _=>N - QvX o)
 case atStart=>exact⟨1,by omega,ay,by rw[Nat.mul_one],aw,av,fun j h1 h2=>by omega⟩
 case round =>
  clear aw av;obtain⟨k,aE,aN,rfl,al,am,ag⟩:=hrel;have az:=η (al.vlen.trans (Qca d u k));by_cases O:QaO (d*k) u=u
  ·have aA:Hid (Qib d u k):=⟨aE,O,ag.out⟩;rw[O];clear O ag;go_wp2_with fail;go_ret2;exact⟨k,_,aA.out,rfl,al,am⟩
  ·have aL:(ci (QaO (d*k) u) !=ci u)=true:=by rw[bne_iff_ne];exact fun e=>O (Qeh e)
   have aM:k<N:=by
    rcases Nat.lt_or_ge k N with h |h
    ·exact h
    ·exact absurd (by rw[show k=N by omega];exact ar.out) O
   have aB:Hid (∀j,1≤j→j<k+1→QaO (d*j) u≠u):=fun j h1 h2=>by
    by_cases e:j=k
    ·subst e;exact O
    ·exact ag.out j h1 (by omega)
   have ad:=fun W I=>(hF (ci (QaO (d*k) u)) W I).out
   rw[Qam,Qhu,Qbz,show d+d*k=d*(k+1) by rw[Nat.mul_succ];omega]at ad;replace ad:=fun W I=>η (ad W I)
   have aC:=η (Qiw d u k);have aD:(QcG d u k).length≤1000000:=by rw[Qca];omega
   clear O ag;generalize ci (QaO (d*k) u)=y at *;go_wp2_with (at_builtin;refine Qbs rfl _ _ rfl w.heap.size _ _ _ al rfl rfl rfl aD am.size ?_;intro v' w3 aa aF _ _);have ae:=am.trans aF;have Y:=I.bm ae;go_wp2_with fail;(with_reducible refine (ad _ Y).out.mono ?_);rintro e w4 ⟨rfl,J⟩;go_wp2_with fail;go_roundw
   case rel=>exact⟨k+1,by omega,by omega,rfl,by rw[aC.out];exact aa.below J ρ,ζ ae J,aB⟩
   case measure=>rw[az.out,aa.vlen];simp[Qca];omega
end
section
section
variable {D:Desc} {w w':World} {L g n m:Nat} {q q':Option Nat} {i b c:Nat} {f:Nat→R D} {M:Nat→Nat→R D}
theorem MP.congr {M':Nat→Nat→R D} (h:MP w L g n m q M)(T:∀i j,i<n→j<m→M i j=M' i j):MP w L g n m q M':=by
 obtain⟨U,B,C,J,V⟩:=h;exact⟨U,B,C,fun i I=>⟨(J i I).hd,(J i I).fz,(J i I).lt,(J i I).ne,(J i I).nq,(J i I).lo,(J i I).c1,(J i I).c2,fun j O=>by rw[←T i j I O];exact (J i I).cells j O⟩,V⟩
theorem MP.free (h:MP w L g n m q M):MP w L g n m none M:=by
 obtain⟨I,B,C,J,O⟩:=h;exact⟨I,B,C,fun i T=>(J i T).to (by simp),O⟩
theorem MP.push {w3:World} {k:Nat} (h:MP w L g k m none M)(T:g<w3.heap.size)(U:∀i,i<k→∀b c (f:Nat→R D),QbR w L g m none i b c f→QbR w3 L g m none i b c f)(V:QbR w3 L g m none k b c (M k))(hb:w.heap.size≤b):MP w3 L g (k+1) m none M:=by
 obtain⟨ab,B,C,I,X⟩:=h;refine⟨T,fun t=>if t=k then b else B t,fun t=>if t=k then c else C t,fun t Y=>?_,fun s t hs Y e=>?_⟩
 ·by_cases e:t=k
  ·subst e;simp only[if_true];exact V
  ·simp only[if_neg e];exact U t (by omega) _ _ _ (I t (by omega))
 ·by_cases J:s=k <;> by_cases O:t=k
  ·omega
  ·simp only[J,O,if_true,if_false]at e;have:=(I t (by omega)).lt;omega
  ·simp only[J,O,if_true,if_false]at e;have:=(I s (by omega)).lt;omega
  ·simp only[J,O,if_false]at e;exact X s t (by omega) (by omega) e
end
theorem Qls {α:Type} {P Q:Prop} [Decidable P] [Decidable Q] (h:P↔Q){x y:α}:(if P then x else y)=if Q then x else y:=by
 by_cases e:P
 ·rw[if_pos e,if_pos (h.1 e)]
 ·rw[if_neg e,if_neg (fun I=>e (h.2 I))]
noncomputable def Qic {F:FD} (d n:Nat)(u b:Nat→R F.z)(j i:Nat):Nat→Nat→R F.z:=fun r t=>if t<j∨(t=j∧r<i) then QaO (d*r) (u t) else if t<n then 0 else b r
theorem QpB {F:FD} (d n:Nat)(u b:Nat→R F.z):Qic d n u b n 0=Qs2 d n u b:=funext fun r=>funext fun t=>by
 unfold Qic Qs2;by_cases h:t<n
 ·rw[if_pos (.inl h),if_pos h]
 ·rw[if_neg (fun e=>e.elim h (fun e=>absurd e.2 (Nat.not_lt_zero _))),if_neg h,if_neg h]
theorem QpC {F:FD} (d n:Nat)(u b:Nat→R F.z)(j:Nat){r:Nat} (I:r<n)(t:Nat):Qic d n u b j n r t=Qic d n u b (j+1) 0 r t:=by
 unfold Qic;exact Qls (by omega)
theorem QrD {F:FD} (d n:Nat)(u b:Nat→R F.z)(j i:Nat):QgO (Qic d n u b j i) i (fun t=>if t=j then QaO (d*i) (u j) else Qic d n u b j i i t)=Qic d n u b j (i+1):=funext fun r=>funext fun t=>by
 unfold QgO;by_cases e:r=i
 ·rw[if_pos e];by_cases I:t=j
  ·rw[if_pos I];unfold Qic;rw[if_pos (.inr ⟨I,by omega⟩),e,I]
  ·rw[if_neg I,e];unfold Qic;exact Qls (by omega)
 ·rw[if_neg e];unfold Qic;exact Qls (by omega)
theorem Qlt (F:FD)(n m d:Nat)(aF:m=n+1)(bg:1≤d)(bh:d≤8)(av:F.m / d=n)(l:List Int)(hl:l.length=n)(b:Nat→R F.z)(Al Ab:Option Addr)(cl cb gf:Nat)(w:World)(hg:GF w w.heap.size gf F)(bj:Rd w w.heap.size Al l)(bk:Rd w w.heap.size Ab (QaK F.z n b)) :
  Calls Tryz.prog 167 #[.pointer (some ⟨gf,0,none⟩),.slice Al n cl,.int .i64 d,.slice Ab n cb] w fun e w'=>∃g,e=.returned (.slice (some ⟨g,0,none⟩) n n)∧w.heap.size≤g∧MP w' w.heap.size g n m none (Qs2 d n (fun j=>eli F.z (l[j]?.getD 0)) b)∧Below w.heap.size w w':=by
 have bH:n≤8:=by rw[←av];exact τ (Nat.div_le_self _ _) F.m8
 have hE:=fun x W h=>η (Qhv F x d gf W h bg bh)
 rw[av]at hE;replace hE:=fun x W h=>(hE x W h)
 have bI:=QtT n (by omega);have bm:=QaC m (by omega);rw[show (m:Int)=(n:Int)+1 by omega]at bm;have aY:n<m:=by omega
 have bJ:(n:Int)<(m:Int):=by omega
 have bK:m≤9:=by omega
 obtain⟨u,hu⟩:∃u:Nat→R F.z,u=fun j=>eli F.z (l[j]?.getD 0):=⟨_,rfl⟩
 rw[←hu];obtain⟨g,al⟩:=ε (w.heap.size);obtain⟨Y,hY⟩:=ε (w.alloc (.cells (Array.replicate n (Value.slice none 0 0)) 22));have aZ:Below w.heap.size w Y:=by rw[hY];exact β
 have a0:g<Y.heap.size:=by rw[hY,al];simp
 have aa:∀k,k<n→∃v,Y.cell? ⟨g,k,none⟩=some v∧Y.frozen? ⟨g,k,none⟩=false:=fun k hk=>by
  rw[hY,al];exact⟨.slice none 0 0,by simp[go_sem,hk],by simp[go_sem]⟩
 have a1:Hid (MP Y w.heap.size g 0 m none (Qic d n u b 0 0)):=⟨a0,fun _=>0,fun _=>0,fun i hi=>absurd hi (Nat.not_lt_zero _),fun i k hi=>absurd hi (Nat.not_lt_zero _)⟩;have a2:w.heap.size≤g:=Nat.le_of_eq al.symm;replace aa:=η aa;replace aF:=η aF;replace av:=η av;replace hu:=η hu;replace hl:=η hl;replace hY:=η hY;go_enter Tryz.func167,Tryz.ntmps167;go_wp2_with fail;rw[←hY.out];simp only[←al];have bL:=η al;clear al;go_loopw [20] (fun iS wr=>∃i:Nat,i≤n∧iS=.int .i64 i∧Hid (MP wr w.heap.size g i m none (Qic d n u b 0 0))∧Hid (∀k,i≤k→k<n→∃v,wr.cell? ⟨g,k,none⟩=some v∧wr.frozen? ⟨g,k,none⟩=false)∧Below w.heap.size w wr) (fun iS _=>n - (intOf iS).toNat)
 case atStart=>exact⟨0,by omega,rfl,a1,fun k _ hk=>aa.out k hk,aZ⟩
 case round =>
  clear a1 aa aZ a0 hY;obtain⟨w1,rfl⟩:=ε (wr:World);obtain⟨i,hi,rfl,I,aa,J⟩:=hrel;have U:=I.out.1;have aH:=J.size;by_cases aV:i<n
  ·have i0:(0:Int)≤(i:Int):=by omega
   have i1:(i:Int)<(n:Int):=by omega
   have n0:(0:Int)≤(n:Int):=by omega
   obtain⟨v,ba,bb⟩:=aa.out i ρ aV;obtain⟨ob,oo,rfl,bc,aC⟩:=bk.at_ (k:=i) (by rw[Qae];exact aV);rw[Qa0 _ _ aV]at aC;obtain⟨y,hy⟩:=ε (ci (b i));rw[←hy]at aC;obtain⟨nb,au⟩:=ε (w1.heap.size);obtain⟨Y1,aj⟩:=ε (w1.alloc (.cells (Array.replicate m (Value.int .i64 0)) 3));have V:Below w1.heap.size w1 Y1:=by rw[aj];exact β
   have a3:IB Y1 nb (List.replicate m 0):=by rw[aj,au];exact IB.newz w1 m
   have aI:=(V.cell (p:=⟨g,i,none⟩) U).trans ba;have aJ:=(V.frozen (p:=⟨g,i,none⟩) U).trans bb;have ap:g≠nb:=by omega
   obtain⟨W2,O⟩:=ε (Y1.setCell ⟨g,i,none⟩ (.slice (some ⟨nb,0,none⟩) m m));have aK:W2.cell? ⟨g,i,none⟩=some (.slice (some ⟨nb,0,none⟩) m m):=by rw[O];exact World.cell?_setCell_same _ _ _ aI
   have bo:g≠ob:=by omega
   have aL:W2.cell? ⟨ob,oo+i,none⟩=some (.int .i64 y):=by
    rw[O];exact (World.cell?_setCell_far _ _ _ _ bo).trans ((V.cell (p:=⟨ob,oo+i,none⟩) (θ bc aH)).trans ((J.cell (p:=⟨ob,oo+i,none⟩) bc).trans aC))
   have ay:IB W2 nb (List.replicate m 0):=by rw[O];exact a3.far (p:=⟨g,i,none⟩) (fun e=>ap e.symm) _
   have bP:=ay.cell (i:=n) (by simpa using aY);have bQ:=ay.frozen n;have bp:nb≠ob:=by omega
   obtain⟨X,T⟩:=ε ((W2.setCell ⟨nb,n,none⟩ (.int .i64 y)).drew);have aM:X.heap.size=Y1.heap.size:=by rw[T,O];simp[World.setCell,World.drew]
   have bq:=η (show W2.cell? ⟨g,i,none⟩=some (.slice (some ⟨nb,0,none⟩) m m)∧W2.cell? ⟨ob,oo+i,none⟩=some (.int .i64 y) from ⟨aK,aL⟩);have a4:Hid (X.cell? ⟨g,i,none⟩=some (.slice (some ⟨nb,0,none⟩) m m)∧X.cell? ⟨ob,oo+i,none⟩=some (.int .i64 y)):=by
    rw[T];exact⟨(World.cell?_setCell_far _ _ _ _ (fun e=>ap e.symm)).trans aK,(World.cell?_setCell_far _ _ _ _ bp).trans aL⟩
   have az:Hid (MP X w.heap.size g (i+1) m none (Qic d n u b 0 0)):=by
    refine I.out.push (b:=nb) (c:=m) (by rw[aM];exact θ U V.size) (fun k hk b' c' f' hr=>?_) ?_ (Nat.le_of_eq au.symm)
    ·have h1:=hr.grown U (Qbr V ρ) (q':=none) (by simp) (by simp) (by simp);have h2:=h1.other (i:=i) (v:=.slice (some ⟨nb,0,none⟩) m m) (by omega);rw[←O]at h2;have h3:=h2.grown (q':=none) (row:=some nb) (by rw[O];simp only[World.setCell,Array.size_modify];exact θ U V.size) (QbB W2 ⟨nb,n,none⟩ (.int .i64 y)) (by intro e;injection e with e;exact ap e.symm) (by intro e;injection e with e;have:=hr.lt;omega) (by simp);rw[T];exact h3.drew
    ·have aN:IB X nb ((List.replicate m 0).set n y):=by rw[T];exact ay.set_ n y
     refine⟨a4.out.1,?_,aN.lt,fun e=>ap e.symm,by simp,by omega,Nat.le_refl _,by unfold maxLen;omega,fun t ht=>⟨?_,aN.frozen t⟩⟩
     ·rw[T,O];simp[go_sem,aJ]
     ·have h4:=aN.cell (i:=t) (by simp;exact ht);rw[h4]
      congr 2
      unfold Qic;rw[if_neg (fun e=>e.elim (Nat.not_lt_zero _) (fun e=>Nat.not_lt_zero _ e.2))];by_cases e:t<n
      ·rw[if_pos e,QaF,List.getElem?_set_ne (by omega),List.getElem?_replicate_of_lt ht];rfl
      ·obtain rfl:t=n:=by have:=aF.out;omega
       rw[if_neg e,List.getElem?_set_self (by simpa using aY),hy];rfl
   have bs:Hid (∀k,i+1≤k→k<n→∃v,X.cell? ⟨g,k,none⟩=some v∧X.frozen? ⟨g,k,none⟩=false):=fun k h1 h2=>by
    obtain⟨v',h3,h4⟩:=aa.out k (by omega) h2;have bt:=(V.cell (p:=⟨g,k,none⟩) U).trans h3;have bu:=(V.frozen (p:=⟨g,k,none⟩) U).trans h4;refine⟨v',?_,by rw[T,O];simp[go_sem,bu]⟩;rw[T,O];exact (World.cell?_setCell_far _ _ _ _ (fun e=>ap e.symm)).trans ((QdK (by omega)).trans bt)
   have aA:Hid (Below w.heap.size w X):=by
    rw[T,O];exact (((J.trans (V.mono aH)).setCell (p:=⟨g,i,none⟩) a2 _).setCell (p:=⟨nb,n,none⟩) (by show w.heap.size≤nb;omega) _).drew
   have a5:=aI;have a6:=aJ;rw[aj]at a5 a6;clear aI aJ;replace aj:=η aj;replace O:=η O;replace T:=η T;replace aM:=η aM;replace hy:=η hy;clear ba bb a3 ay aC aK aL I aa V;go_wp2_with fail;rw[←World.setCell_alloc_past _ _ _ _ U,←aj.out];simp only[←au];rw[←O.out];replace au:=η au;clear a5 a6;refine wp_region_held_drew (S:=fun w'=>w'.cell? ⟨g,i,none⟩=some (.slice (some ⟨nb,0,none⟩) m m)∧w'.cell? ⟨ob,oo+i,none⟩=some (.int .i64 y)) (by kernel_rfl) (by (try dsimp only);exact bq.out) (fun hHeld=>?_);refine tk 0 ?_;simp only[pS]
   refine tk 1 ?_;simp only[pS]
   refine tk 2 ?_;simp only[pS]
   refine tk 3 ?_;simp only[pS]
   refine tk 4 ?_;simp only[pS]
   refine tk 5 ?_;simp only[pS]
   refine tk 6 ?_;simp only[pS]
   refine tk 7 ?_;simp only[pS]
   refine tk 8 ?_;simp only[pS]
   refine tk 9 ?_;simp only[pS]
   refine tk 10 ?_;simp only[pS]
   refine rd 11 fun K hK=>?_
   go_simp;rw[←T.out];refine hK.out _ _ a4.out fun hHeld=>?_;clear hK K;try simp only[pS]
   refine δ ?_;go_wp2_with fail;go_roundw
   case rel=>exact⟨i+1,by omega,by go_num,az,bs,aA.out⟩
   case measure=>simp[intOf];omega
  ·obtain rfl:i=n:=by omega
   clear aa;go_wp2_with fail;go_loopw [44] (fun jS wr=>∃j:Nat,j≤i∧jS=.int .i64 j∧Hid (MP wr w.heap.size g i m none (Qic d i u b j 0))∧Below w.heap.size w wr) (fun jS _=>i - (intOf jS).toNat)
   case atStart=>exact⟨0,by omega,rfl,I,J⟩
   case round =>
    clear I J U aH;obtain⟨w2,rfl⟩:=ε (wr:World);obtain⟨j,hj,rfl,I,J⟩:=hrel;by_cases bG:j<i
    ·have j0:(0:Int)≤(j:Int):=by omega
     have j1:(j:Int)<(i:Int):=by omega
     have j2:(j:Int)<(m:Int):=by omega
     have bv:j<m:=by omega
     obtain⟨bl,ol,rfl,bE,be⟩:=bj.at_ (k:=j) (by rw[hl.out];exact bG);have a7:=(J.cell (p:=⟨bl,ol+j,none⟩) bE).trans be;have ak:=(hE (l[j]?.getD 0) w2 (hg.bm J)).out;rw[show eli F.z (l[j]?.getD 0)=u j from by rw[hu.out]]at ak;obtain⟨x,hx⟩:=ε (l[j]?.getD 0);rw[←hx]at a7 ak;replace ak:=η ak;replace hx:=η hx;clear be;go_wp2_with fail;(with_reducible refine ak.out.mono ?_);rintro e w3 ⟨g1,rfl,U,af,aA⟩;have az:Hid (MP w3 w.heap.size g i m (some g1) (Qic d i u b j 0)):=I.out.grown (Qbr aA ρ) (by simp) (.inr fun k e=>by injection e with e;omega);have a8:=ζ J aA;have bU:g≠g1:=by have:=I.out.1;omega
     clear I J ak a7;go_wp2_with fail;go_loopw [54] (fun iS wr=>∃r:Nat,r≤i∧iS=.int .i64 r∧Hid (MP wr w.heap.size g i m (some g1) (Qic d i u b j r))∧Hid (IB wr g1 (QcG d (u j) i))∧Below w.heap.size w wr) (fun iS _=>i - (intOf iS).toNat)
     case atStart=>exact⟨0,by omega,rfl,az,af,a8⟩
     case round =>
      clear az af a8;obtain⟨w4,rfl⟩:=ε (wr:World);obtain⟨r,hr,rfl,I,af,J⟩:=hrel;by_cases aW:r<i
      ·have r0:(0:Int)≤(r:Int):=by omega
       have r1:(r:Int)<(i:Int):=by omega
       obtain⟨br,cr,ao,aR⟩:=I.out.at_ aW;have bX:=ao.hd;obtain⟨b0,b1⟩:=ao.cells j bv;have a9:=af.out.cell (i:=r) (by unfold QcG;rw[Qab];exact aW);rw[show (QcG d (u j) i)[r]?.getD 0=ci (QaO (d*r) (u j)) from Qas _ aW]at a9;obtain⟨y,hy⟩:=ε (ci (QaO (d*r) (u j)));rw[←hy]at a9;have bw:g1≠br:=fun e=>ao.nq (by rw[e])
       have bx:=ao.lo;have bz:Hid (IB (w4.setCell ⟨br,j,none⟩ (.int .i64 y)) g1 (QcG d (u j) i)):=af.out.far (p:=⟨br,j,none⟩) bw _;have bA:Hid (Below w.heap.size w (w4.setCell ⟨br,j,none⟩ (.int .i64 y))):=J.setCell (p:=⟨br,j,none⟩) bx _;have aQ:Hid (MP (w4.setCell ⟨br,j,none⟩ (.int .i64 y)) w.heap.size g i m (some g1) (Qic d i u b j (r+1))):=by
        have h1:=aR (w4.setCell ⟨br,j,none⟩ (.int .i64 y)) (fun t=>if t=j then QaO (d*r) (u j) else Qic d i u b j r r t) (QbB _ _ _) fun t ht=>by
         obtain⟨h2,h3⟩:=ao.cells t ht;refine⟨?_,by simp[go_sem,h3]⟩;by_cases e:t=j
         ·subst e;rw[World.cell?_setCell_same _ _ _ h2,if_pos rfl,hy]
         ·rw[QdK e,h2,if_neg e]
        rw[QrD]at h1;exact h1
       replace hy:=η hy;replace aR:=η aR;clear ao I af;go_wp2_with fail;go_roundw
       case rel=>exact⟨r+1,by omega,by go_num,aQ,bz,bA.out⟩
       case measure=>simp[intOf];omega
      ·obtain rfl:r=i:=by omega
       have aQ:Hid (MP w4 w.heap.size g r m none (Qic d r u b (j+1) 0)):=I.out.free.congr fun s t hs _=>QpC d r u b j hs t
       clear I af;go_wp2_with fail;go_roundw
       case rel=>exact⟨j+1,by omega,by go_num,aQ,J⟩
       case measure=>simp[intOf];omega
    ·obtain rfl:j=i:=by omega
     rw[QpB]at I;go_wp2_with fail;go_ret;exact⟨g,rfl,a2,I.out,J⟩
end
end Go.Proofs
