/- The program's arithmetic of a field: Is, in, Add, Mul, Pow. -/
import Derived.Laws.BitsAllLaws
import Derived.Laws.BitsLemmas
import Derived.Test.YtogfekjbpcfgmaaGreatZtkP4
set_option maxRecDepth 100000
set_option maxHeartbeats 16000000
set_option linter.unusedVariables false
namespace Go.Proofs
open Go.RowKit Cw
section
theorem Qhi (D:FD)(x:Int)(g:Nat)(w:World)(O:GF w w.heap.size g D) :
  Calls Tryz.prog 127 #[.pointer (some ⟨g,0,none⟩),.int .i64 x] w fun e w'=>e=.returned (.bool (decide (0≤x∧x<D.q)))∧w=w':=by
 have T:=D.q256;have U:=O.c3;by_cases h0:0≤x
 ·by_cases J:x<D.q
  ·have I:=η (decide_eq_true (p:=0≤x∧x<D.q) ⟨h0,J⟩);go_enter Tryz.func127,Tryz.ntmps127;go_wp2_with fail;go_ret;exact⟨QaB (by simp;omega),rfl⟩
  ·have I:=η (decide_eq_false (p:=0≤x∧x<D.q) fun h=>J h.2);go_enter Tryz.func127,Tryz.ntmps127;go_wp2_with fail;go_ret;exact⟨QaB (by simp;omega),rfl⟩
 ·have I:=η (decide_eq_false (p:=0≤x∧x<D.q) fun h=>h0 h.1);go_enter Tryz.func127,Tryz.ntmps127;go_wp2_with fail;go_ret;exact⟨QaB (by simp;omega),rfl⟩
theorem QeA (D:FD)(x:Int)(g:Nat)(w:World)(J:GF w w.heap.size g D) :
  Calls Tryz.prog 152 #[.pointer (some ⟨g,0,none⟩),.int .i64 x] w fun e w'=>e=.returned (.int .i64 (ci (eli D.z x)))∧w=w':=by
 have O:=η (Qhi D x g w J);have T:=η (QsK (D:=D.z) x);clear J;by_cases h:0≤x∧x<D.q
 ·have I:=η (decide_eq_true h);go_enter Tryz.func152,Tryz.ntmps152;go_wp2_with (go_at_call 127;refine O.out.mono ?_;rw[I.out];rintro e w1 ⟨rfl,rfl⟩);go_ret;exact⟨Qa2 (by rw[T.out,if_pos h]),rfl⟩
 ·have I:=η (decide_eq_false h);go_enter Tryz.func152,Tryz.ntmps152;go_wp2_with (go_at_call 127;refine O.out.mono ?_;rw[I.out];rintro e w1 ⟨rfl,rfl⟩);go_ret;exact⟨Qa2 (by rw[T.out,if_neg h]),rfl⟩
theorem QbZ (D:FD)(x y:Int)(g:Nat)(w:World)(J:GF w w.heap.size g D) :
  Calls Tryz.prog 90 #[.pointer (some ⟨g,0,none⟩),.int .i64 x,.int .i64 y] w fun e w'=>e=.returned (.int .i64 (ci (eli D.z x*eli D.z y)))∧Below w.heap.size w w':=by
 have ay:=D.q2;have az:=D.q256;have O:=QeA D x g w J;have T:=QeA D y g w J;generalize eli D.z x=u at *;generalize eli D.z y=v at *;replace O:=η O;replace T:=η T;have c3:=J.c3;obtain⟨Ae,ce,c4,re⟩:=J.ex;obtain⟨Al,cl,c5,rl⟩:=J.lo;clear J;have ak:=Qa8 u;have aB:=Qeu u;have al:=Qa8 v;have aC:=Qeu v;by_cases I:u=0
 ·have hb:(ci u==0)=true:=by rw[beq_iff_eq];exact Qaq.2 I
  have ac:Hid (ci (u*v)=0):=by unfold Hid;rw[I,Qah,QaF]
  clear I;go_enter Tryz.func90,Tryz.ntmps90;go_wp2_with fail;refine O.out.mono ?_;rintro e w1 ⟨rfl,rfl⟩;go_wp2_with fail;refine T.out.mono ?_;rintro e w1 ⟨rfl,rfl⟩;go_wp2_with fail;go_ret;exact⟨Qa2 ac.out.symm,κ⟩
 ·by_cases U:v=0
  ·have hb:(ci u==0)=false:=by rw[beq_eq_false_iff_ne];exact fun h=>I (Qaq.1 h)
   have am:(ci v==0)=true:=by rw[beq_iff_eq];exact Qaq.2 U
   have ac:Hid (ci (u*v)=0):=by unfold Hid;rw[U,Qac,QaF]
   clear I U;go_enter Tryz.func90,Tryz.ntmps90;go_wp2_with fail;refine O.out.mono ?_;rintro e w1 ⟨rfl,rfl⟩;go_wp2_with fail;refine T.out.mono ?_;rintro e w1 ⟨rfl,rfl⟩;go_wp2_with fail;go_ret;exact⟨Qa2 ac.out.symm,κ⟩
  ·have hb:(ci u==0)=false:=by rw[beq_eq_false_iff_ne];exact fun h=>I (Qaq.1 h)
   have am:(ci v==0)=false:=by rw[beq_eq_false_iff_ne];exact fun h=>U (Qaq.1 h)
   obtain⟨a,ha⟩:=Int.eq_ofNat_of_zero_le ak;obtain⟨b,ai⟩:=Int.eq_ofNat_of_zero_le al;have ad:a<D.q:=by omega
   have ae:b<D.q:=by omega
   have an:rel D.z a=u:=by rw[←QaT u];congr 1;unfold ci at ha;omega
   have ao:rel D.z b=v:=by rw[←QaT v];congr 1;unfold ci at ai;omega
   have V:(lgl D).length=D.q:=Qab _ _;obtain⟨bl,ol,rfl,a4,aj⟩:=rl (by rw[V];omega);have af:(QqI D).length=D.q - 1:=Qab _ _;obtain⟨be,oe,rfl,a7,aw⟩:=re (by rw[af];omega);have ap:=aj a (by rw[V];exact ad);have aq:=aj b (by rw[V];exact ae);rw[show (lgl D)[a]?.getD 0=(lg D u:Nat) by unfold lgl;rw[Qas _ ad,an]]at ap;rw[show (lgl D)[b]?.getD 0=(lg D v:Nat) by unfold lgl;rw[Qas _ ae,ao]]at aq;obtain⟨i,Y⟩:=ε (lg D u);obtain⟨j,hj⟩:=ε (lg D v);have aD:i<D.q - 1:=by rw[Y];exact Qnm _ _
   have aE:j<D.q - 1:=by rw[hj];exact Qnm _ _
   rw[←Y]at ap;rw[←hj]at aq;obtain⟨k,hk⟩:∃k,D.q=k+1:=⟨D.q - 1,by omega⟩;have aF:(i+j) % k<k:=Nat.mod_lt _ (by omega);have ag:=aw ((i+j) % k) (by rw[af];omega);rw[show (QqI D)[(i+j) % k]?.getD 0=ci (pw D.g ((i+j) % k)) from Qas _ (by omega)]at ag;have ar:pw D.g ((i+j) % k)=u*v:=by
    rw[show k=D.q - 1 by omega];have h:=QdE (F:=R D.z) (i+j);refine (h:pw D.g ((i+j) % (D.q - 1))=pw D.g (i+j)).trans ?_;have h3:pw D.g (lg D u)*pw D.g (lg D v)=u*v:=by rw[Qnn D I,Qnn D U]
    rw[QcL,Y,hj];exact h3
   rw[ar]at ag;rw[ha]at hb O;rw[ai]at am T;have au:D.q - 1=k:=by omega
   rw[au]at c4;rw[hk]at c3 c5;have X:((i:Int)+(j:Int)) % (k:Int)=(((i+j) % k:Nat):Int):=by rw[Int.natCast_emod,Int.natCast_add]
   clear aj aw ha ai Y hj an ao ar I U af V au;obtain⟨z,hz⟩:=ε ((i+j) % k);rw[←hz]at X ag aF;replace X:=η X;clear hz;have aP:1≤k:=by omega
   have aQ:k≤255:=by omega
   have aR:a<k+1:=by omega
   have aS:b<k+1:=by omega
   have aT:i<k:=by omega
   have aU:j<k:=by omega
   clear hk ay az ak aB al aC ad ae aD aE;go_enter Tryz.func90,Tryz.ntmps90;go_wp2_with fail;refine O.out.mono ?_;rintro e w1 ⟨rfl,rfl⟩;go_wp2_with fail;refine T.out.mono ?_;rintro e w1 ⟨rfl,rfl⟩;go_wp2_with fail;have av:=X.out;have i1:(a:Int)<(k:Int)+1:=by omega
   have i2:(b:Int)<(k:Int)+1:=by omega
   have i3:(0:Int)≤(i:Int)+(j:Int):=by omega
   have i4:(z:Int)<(k:Int):=by omega
   have aY:¬ k=0:=by omega
   have e1:IntKind.i64.wrap ((i:Int)+(j:Int))=(i:Int)+(j:Int):=IntWalk.i64_in _ (by omega);have e2:IntKind.i64.wrap (k:Int)=(k:Int):=IntWalk.i64_in _ (by omega);have e3:((i:Int)+(j:Int)).tmod (k:Int)=(z:Int):=(Int.tmod_eq_emod_of_nonneg i3).trans av;clear av;go_quiet (fail);clear e1 e2 e3;go_wp2_with fail;go_ret;exact⟨rfl,Qbj κ _⟩
end
section
theorem QsW (a:Nat)(I:a<9223372036854775808):(BitVec.ofInt 64 (a:Int)).toNat=a:=by
 rw[BitVec.ofInt_natCast,BitVec.toNat_ofNat];exact Nat.mod_eq_of_lt (by omega)
theorem QtS (a b:Nat)(I:a<9223372036854775808)(J:b<9223372036854775808):bits .xor .i64 (a:Int) (b:Int)=((a ^^^ b:Nat):Int):=by
 have O:a ^^^ b<2 ^ 63:=Nat.xor_lt_two_pow (by omega) (by omega)
 show IntKind.i64.wrap ((BitVec.ofInt 64 (a:Int) ^^^ BitVec.ofInt 64 (b:Int)).toNat:Int)=_
 rw[BitVec.toNat_xor,QsW a I,QsW b J,IntKind.wrap_i64];omega
theorem Qcf (D:FD)(x y:Int)(g:Nat)(w:World)(V:GF w w.heap.size g D) :
  Calls Tryz.prog 91 #[.pointer (some ⟨g,0,none⟩),.int .i64 x,.int .i64 y] w fun e w'=>e=.returned (.int .i64 (ci (eli D.z x+eli D.z y)))∧Below w.heap.size w w':=by
 have a9:=D.q2;have ba:=D.q256;have bb:=D.p2;have bc:=D.p256;have aa:=QeA D x g w V;have ab:=QeA D y g w V;generalize eli D.z x=u at *;generalize eli D.z y=v at *;have c0:=V.c0;have aN:=V.lt;clear V;obtain⟨a,I⟩:=ε (QaA u);obtain⟨b,J⟩:=ε (QaA v);have be:a<D.q:=by rw[I];exact QaM u
 have bf:b<D.q:=by rw[J];exact QaM v
 rw[show ci u=(a:Int) by rw[I];rfl]at aa;rw[show ci v=(b:Int) by rw[J];rfl]at ab;replace aa:=η aa;replace ab:=η ab;have bg:a≤255:=by omega
 have bh:b≤255:=by omega
 replace I:=η I;replace J:=η J;by_cases h2:D.p=2
 ·have aO:((D.p:Int)==2)=true:=by rw[beq_iff_eq];omega
  have hx:=QtS a b (by omega) (by omega);have ao:Hid (((a ^^^ b:Nat):Int)=ci (u+v)):=by unfold Hid ci;rw[I.out,J.out,QtF h2]
  clear h2;go_enter Tryz.func91,Tryz.ntmps91;go_wp2_with fail;refine aa.out.mono ?_;rintro e w1 ⟨rfl,rfl⟩;go_wp2_with fail;refine ab.out.mono ?_;rintro e w1 ⟨rfl,rfl⟩;go_wp2_with fail;go_ret;exact⟨Qa2 ao.out,κ⟩
 ·have aO:((D.p:Int)==2)=false:=by rw[beq_eq_false_iff_ne];omega
  clear h2;go_enter Tryz.func91,Tryz.ntmps91;go_wp2_with fail;refine aa.out.mono ?_;rintro e w1 ⟨rfl,rfl⟩;go_wp2_with fail;refine ab.out.mono ?_;rintro e w1 ⟨rfl,rfl⟩;go_wp2_with fail;go_loopw [1,2,7,8] (fun x y s pl wr=>∃k X Y S P:Nat,x=.int .i64 X∧y=.int .i64 Y∧s=.int .i64 S∧pl=.int .i64 P∧k≤D.m∧X≤255∧Y≤255∧S≤256∧P≤256 ∧
   Hid (X=a / D.p ^ k)∧Hid (Y=b / D.p ^ k)∧Hid (S=Qds D.p (di (u+v)) k)∧Hid (P=D.p ^ k)∧Below w.heap.size w wr) (fun x y _ _ _=>(intOf x).toNat+(intOf y).toNat)
  case atStart=>exact⟨0,a,b,0,1,rfl,rfl,rfl,rfl,by omega,by omega,by omega,by omega,by omega,by simp[Hid],by simp[Hid],rfl,by simp[Hid],κ⟩
  case round =>
   obtain⟨k,X,Y,S,P,rfl,rfl,rfl,rfl,hk,hX,hY,hS,hP,ai,aj,aK,aL,az⟩:=hrel;have bj:=(az.cell (p:=⟨g,0,none⟩) aN).trans c0;by_cases hz:X=0∧Y=0
   ·obtain⟨rfl,rfl⟩:=hz;have ao:Hid ((S:Int)=ci (u+v)):=by
     unfold Hid ci;rw[aK.out,Qq0 u v hk (by rw[←I.out];exact ai.out.symm) (by rw[←J.out];exact aj.out.symm)]
    go_wp2_with fail;go_ret;exact⟨Qa2 ao.out,az⟩
   ·have aE:k<D.m:=by
     rcases Nat.lt_or_ge k D.m with h |h
     ·exact h
     ·exfalso;apply hz;rw[ai.out,aj.out,I.out,J.out];exact⟨Qew u h,Qew v h⟩
    have aF:D.p ^ (k+1)≤256:=τ (Nat.pow_le_pow_right (by omega) aE) D.hq;have ap:=QoP u v aE;rw[←I.out,←J.out,←ai.out,←aj.out]at ap;have aP:=Qf2 (p:=D.p) (m:=k+1) (f:=di (u+v)) (fun i _=>Qd3 _ i);have ag:Qds D.p (di (u+v)) (k+1)=S+(X % D.p+Y % D.p) % D.p*P:=by
     show Qds D.p (di (u+v)) k+di (u+v) k*D.p ^ k=_
     rw[aK.out,ap,aL.out]
    have ah:P*D.p=D.p ^ (k+1):=by rw[aL.out,Nat.pow_succ]
    have aQ:=Nat.mod_lt X (show 0<D.p by omega);have aR:=Nat.mod_lt Y (show 0<D.p by omega);have aG:=Nat.div_le_self X D.p;have aH:=Nat.div_le_self Y D.p;obtain⟨O,ak⟩:=ε (X % D.p);obtain⟨T,al⟩:=ε (Y % D.p);obtain⟨z',aA⟩:=ε ((O+T) % D.p);obtain⟨U,aB⟩:=ε (z'*P);obtain⟨X2,ad⟩:=ε (X / D.p);obtain⟨Y2,af⟩:=ε (Y / D.p);obtain⟨P2,aC⟩:=ε (P*D.p);have aS:Hid (X2=a / D.p ^ (k+1)):=by unfold Hid;rw[ad,ai.out,Nat.pow_succ,Nat.div_div_eq_div_mul]
    have aT:Hid (Y2=b / D.p ^ (k+1)):=by unfold Hid;rw[af,aj.out,Nat.pow_succ,Nat.div_div_eq_div_mul]
    rw[←ak,←al,←aA,←aB]at ag;rw[←aC]at ah;have bk:S+U≤256:=by rw[←ag];omega
    have bl:P2≤256:=by rw[ah];exact aF
    have bm:X2≤X:=by rw[ad];exact aG
    have bo:Y2≤Y:=by rw[af];exact aH
    have bp:X2+Y2<X+Y:=by
     rw[ad,af];have h5:∀n:Nat,0<n→n / D.p<n:=fun n hn=>Nat.div_lt_self hn (by omega)
     rcases Nat.eq_zero_or_pos X with h6 |h6
     ·have:=h5 Y (by omega);omega
     ·have:=h5 X h6;omega
    have aq:(X:Int) % (D.p:Int)=(O:Int):=by rw[ak];rfl
    have ar:(Y:Int) % (D.p:Int)=(T:Int):=by rw[al];rfl
    have au:((O:Int)+(T:Int)) % (D.p:Int)=(z':Int):=by rw[aA,Int.natCast_emod,Int.natCast_add]
    have av:(z':Int)*(P:Int)=(U:Int):=by rw[aB,Int.natCast_mul]
    have aw:(P:Int)*(D.p:Int)=(P2:Int):=by rw[aC,Int.natCast_mul]
    have ax:(X:Int) / (D.p:Int)=(X2:Int):=by rw[ad];rfl
    have ay:(Y:Int) / (D.p:Int)=(Y2:Int):=by rw[af];rfl
    have bq:O≤256:=by rw[ak];omega
    have br:T≤256:=by rw[al];omega
    have aU:Hid (S+U=Qds D.p (di (u+v)) (k+1)):=ag.symm;have aV:Hid (P2=D.p ^ (k+1)):=ah;replace aq:=η aq;replace ar:=η ar;replace au:=η au;replace av:=η av;replace aw:=η aw;replace ax:=η ax;replace ay:=η ay;clear ak al aA aB ad af aC ag ah ap aP aQ aR aG aH aF;have aJ:0<X∨(X≤0∧0<Y):=by omega
    rcases aJ with aJ |⟨bx,bz⟩
    all_goals
     go_wp2_with fail;have bs:¬ D.p=0:=by omega
     have f1:(X:Int).tmod (D.p:Int)=(O:Int):=(Int.tmod_eq_emod_of_nonneg (by omega)).trans aq.out;have f2:(Y:Int).tmod (D.p:Int)=(T:Int):=(Int.tmod_eq_emod_of_nonneg (by omega)).trans ar.out;have f3:IntKind.i64.wrap ((O:Int)+(T:Int))=(O:Int)+(T:Int):=IntWalk.i64_in _ (by omega);have f4:((O:Int)+(T:Int)).tmod (D.p:Int)=(z':Int):=(Int.tmod_eq_emod_of_nonneg (by omega)).trans au.out;have f6:IntKind.i64.wrap (U:Int)=(U:Int):=IntWalk.i64_in _ (by omega);have f7:IntKind.i64.wrap ((S:Int)+(U:Int))=(S:Int)+(U:Int):=IntWalk.i64_in _ (by omega);have f5:=av.out;go_quiet (fail);clear f1 f2 f3 f4 f5 f6 f7;have g5:=aw.out;have g6:=ax.out;have g7:=ay.out;go_wp2_with fail;clear g5 g6 g7;go_roundw
     case rel=>exact⟨k+1,X2,Y2,S+U,P2,rfl,rfl,by go_num,rfl,by omega,by omega,by omega,by omega,by omega,aS,aT,aU,aV,Qbj az _⟩
     case measure=>simp[intOf];omega
end
section
theorem QwA {w3:World} {b:Nat} (u0 u1 u2:Value):Below b w3 (((w3.setCell ⟨b,0,none⟩ u0).setCell ⟨b,1,none⟩ u1).setCell ⟨b,2,none⟩ u2) :=
 ((κ.setCell (p:=⟨b,0,none⟩) ρ _).setCell (p:=⟨b,1,none⟩) ρ _).setCell (p:=⟨b,2,none⟩) ρ _
theorem Qxc {B b:Nat} {X w3:World} (O:∀i,i<3→∃v,X.cell? ⟨b,i,none⟩=some v)(T:∀i,X.frozen? ⟨b,i,none⟩=false)(I:Below B X w3)(J:b<B) :
  ∃U v1 v2,w3.cell? ⟨b,0,none⟩=some U∧w3.cell? ⟨b,1,none⟩=some v1∧w3.cell? ⟨b,2,none⟩=some v2∧w3.frozen? ⟨b,0,none⟩=false∧w3.frozen? ⟨b,1,none⟩=false∧w3.frozen? ⟨b,2,none⟩=false:=by
 obtain⟨U,h0⟩:=O 0 (by omega);obtain⟨v1,V⟩:=O 1 (by omega);obtain⟨v2,Y⟩:=O 2 (by omega);exact⟨U,v1,v2,(I.cell (p:=⟨b,0,none⟩) J).trans h0,(I.cell (p:=⟨b,1,none⟩) J).trans V,(I.cell (p:=⟨b,2,none⟩) J).trans Y,
  (I.frozen (p:=⟨b,0,none⟩) J).trans (T 0),(I.frozen (p:=⟨b,1,none⟩) J).trans (T 1),(I.frozen (p:=⟨b,2,none⟩) J).trans (T 2)⟩
theorem QdJ (D:FD)(g:Nat)(w:World)(U:GF w w.heap.size g D) :
  Calls Tryz.prog 129 #[.pointer (some ⟨g,0,none⟩)] w fun e w'=>∃J T,e=.returned (.agg #[.int .i64 D.p,.int .i64 D.m,.slice J D.mod.length T]) ∧
   Rd w' w'.heap.size J (Qan D.z)∧(∀b,J=some b→w.heap.size≤b.block)∧Below w.heap.size w w':=by
 have aL:D.mod.length≤8:=by have:=D.hlen;have:=D.m8;rw[D.hlen];split <;> omega
 have c0:=U.c0;have c1:=U.c1;have V:=U.lt;obtain⟨A,c,c2,hr⟩:=U.md;clear U;obtain⟨Z,O⟩:=ε (w.alloc (.cells #[.int .i64 0,.int .i64 0,.slice none 0 0] 24));have ae:Below w.heap.size w Z:=by rw[O];exact β
 have af:Z.heap.size=w.heap.size+1:=by rw[O];simp
 have kz:=η (Qau ae V ⟨c0,c1,c2⟩);have o1:Hid (Own (Z.alloc (.cells #[] 3)).drew (w.heap.size+1) (.slice (some ⟨w.heap.size+1,0,none⟩) 0 0) []):=Qa9 (by have:=heap_alloc_new Z (.cells #[] 3);rw[af]at this;exact this) ρ;have X:Below w.heap.size w (Z.alloc (.cells #[] 3)).drew:=(ae.alloc (by omega) _).drew;have k1:=η (Qau X V ⟨c0,c1,c2⟩);have r1:Hid (Rd (Z.alloc (.cells #[] 3)).drew w.heap.size A (Qan D.z)):=hr.below X;have ar:Hid (D.mod.length=(Qan D.z).length):=(Qaf D.z).symm;have au:Hid ((([]:List Int) ++ Qan D.z).length=D.mod.length):=by unfold Hid;rw[List.nil_append,Qaf]
 have av:([]:List Int).length+(Qan D.z).length≤1000000000:=by rw[Qaf];simp;omega
 have b1:w.heap.size+1≤(Z.alloc (.cells #[] 3)).drew.heap.size:=by simp[af]
 have ah:∀i,i<3→∃v,Z.cell? ⟨w.heap.size,i,none⟩=some v:=fun i hi=>by
  rw[O]
  match i,hi with
  |0,_=>exact⟨_,(Qb9 _ _ _ _ _).1⟩
  |1,_=>exact⟨_,(Qb9 _ _ _ _ _).2.1⟩
  |2,_=>exact⟨_,(Qb9 _ _ _ _ _).2.2⟩
 have ai:∀i,Z.frozen? ⟨w.heap.size,i,none⟩=false:=fun i=>by rw[O];exact World.frozen?_alloc_at _ _ _ _ rfl
 have aj:w.heap.size<Z.heap.size:=by omega
 have Y:∀i,i<3→∃v,(Z.alloc (.cells #[] 3)).drew.cell? ⟨w.heap.size,i,none⟩=some v:=fun i hi=>by
  obtain⟨v,hv⟩:=ah i hi;exact⟨v,(((Below.refl Z.heap.size Z).alloc ρ _).cell (p:=⟨w.heap.size,i,none⟩) aj).trans hv⟩
 have aa:∀i,(Z.alloc (.cells #[] 3)).drew.frozen? ⟨w.heap.size,i,none⟩=false:=fun i =>
  (((Below.refl Z.heap.size Z).alloc ρ (.cells #[] 3)).frozen (p:=⟨w.heap.size,i,none⟩) aj).trans (ai i)
 replace O:=η O;replace Y:=η Y;replace aa:=η aa;clear ah ai;clear c0 c1 c2;go_enter Tryz.func129,Tryz.ntmps129;go_wp2_with fail;rw[←O.out];go_region_held3 (fun w'=>w'.cell? ⟨g,0,none⟩=some (.int .i64 D.p)∧w'.cell? ⟨g,1,none⟩=some (.int .i64 D.m)∧w'.cell? ⟨g,2,none⟩=some (.slice A D.mod.length c))
  (first |exact kz.out |exact k1.out |exact y.out |exact Qau (b:=g) (QwA _ _ _) V y.out)
  (first
   |(refine QaL rfl (.tmp 13) (.tmp 18) rfl (w.heap.size+1) _ [] w.heap.size A c (Qan D.z) o1.out r1.out rfl rfl ar.out av b1 ?_;intro v3 w3 aH ac aV aW;obtain⟨J,T,rfl,aN,ak,al⟩:=aH.form;rw[au.out];have y:=η (Qau (b:=g) ac (Nat.lt_succ_of_lt V) k1.out);obtain⟨z0,z1,z2,q0,q1,q2,q3,q4,q5⟩:=Qxc Y.out aa.out ac (Nat.lt_succ_self _)))
 go_wp2_with fail;rw[List.nil_append]at ak;have ax:Below w.heap.size w (((w3.setCell ⟨w.heap.size,0,none⟩ (.int .i64 D.p)).setCell ⟨w.heap.size,1,none⟩ (.int .i64 D.m)).setCell ⟨w.heap.size,2,none⟩ (.slice J D.mod.length T)):=(X.trans (ac.mono (Nat.le_succ _))).trans (QwA _ _ _);have ay:Rd (((w3.setCell ⟨w.heap.size,0,none⟩ (.int .i64 D.p)).setCell ⟨w.heap.size,1,none⟩ (.int .i64 D.m)).setCell ⟨w.heap.size,2,none⟩ (.slice J D.mod.length T)) w3.heap.size J (Qan D.z):=fun hn=>by
  obtain⟨b,an,e,aF,aG⟩:=ak hn;have h8:=(al _ e).1;refine⟨b,an,e,aF,fun j hj=>?_⟩;have ne:∀i,(⟨b,an+j,none⟩:Addr)≠⟨w.heap.size,i,none⟩:=fun i I=>by
   have h9:=congrArg Addr.block I;simp at h9 h8;omega
  rw[World.cell?_setCell_other _ _ _ _ (fun I=>ne 2 (by first |exact I |exact I.symm)),World.cell?_setCell_other _ _ _ _ (fun I=>ne 1 (by first |exact I |exact I.symm)),World.cell?_setCell_other _ _ _ _ (fun I=>ne 0 (by first |exact I |exact I.symm))];exact aG j hj
 have t0:=World.cell?_setCell_same w3 ⟨w.heap.size,0,none⟩ (.int .i64 D.p) q0;refine bodyPost_ret (v:=.agg #[.int .i64 D.p,.int .i64 D.m,.slice J D.mod.length T]) (by simp[results,Tryz.results129,go_sem,q0,q1,q2]) rfl ⟨J,T,rfl,ay.more (by simp[World.setCell]),fun b hb=>by have:=(al b hb).1;omega,ax⟩
end
section
open Cw.CField (inv)
theorem Qmg (D:FD)(x:Int)(g:Nat)(w:World)(J:GF w w.heap.size g D) :
  Calls Tryz.prog 130 #[.pointer (some ⟨g,0,none⟩),.int .i64 x] w fun e w'=>(∃t,e=.returned (.tuple #[.int .i64 (ci (inv (eli D.z x))),.int .i64 t])∧(eli D.z x≠0→t=0))∧Below w.heap.size w w':=by
 have am:=D.q2;have an:=D.q256;have O:=QeA D x g w J;generalize eli D.z x=u at *;replace O:=η O;have c3:=J.c3;obtain⟨Ae,ce,c4,re⟩:=J.ex;obtain⟨Al,cl,c5,rl⟩:=J.lo;clear J;have ab:=Qa8 u;have ap:=Qeu u;by_cases I:u=0
 ·have hb:(ci u==0)=true:=by rw[beq_iff_eq];exact Qaq.2 I
  have aq:Hid (ci (inv u)=0):=by unfold Hid;rw[I,Qdn,QaF]
  have ar:=η I;clear I;go_enter Tryz.func130,Tryz.ntmps130;go_wp2_with fail;refine O.out.mono ?_;rintro e w1 ⟨rfl,rfl⟩;go_wp2_with fail;go_ret2;exact⟨⟨_,by rw[aq.out];rfl,fun h=>absurd ar.out h⟩,κ⟩
 ·have hb:(ci u==0)=false:=by rw[beq_eq_false_iff_ne];exact fun h=>I (Qaq.1 h)
  obtain⟨a,ha⟩:=Int.eq_ofNat_of_zero_le ab;have V:a<D.q:=by omega
  have ad:rel D.z a=u:=by rw[←QaT u];congr 1;unfold ci at ha;omega
  have X:(lgl D).length=D.q:=Qab _ _;obtain⟨bl,ol,rfl,aS,aj⟩:=rl (by rw[X];omega);have Y:(QqI D).length=D.q - 1:=Qab _ _;obtain⟨be,oe,rfl,aV,ak⟩:=re (by rw[Y];omega);have ae:=aj a (by rw[X];exact V);rw[show (lgl D)[a]?.getD 0=(lg D u:Nat) by unfold lgl;rw[Qas _ V,ad]]at ae;obtain⟨i,U⟩:=ε (lg D u);have au:i<D.q - 1:=by rw[U];exact Qnm _ _
  rw[←U]at ae;obtain⟨k,hk⟩:∃k,D.q=k+1:=⟨D.q - 1,by omega⟩;have aF:1≤k:=by omega
  have aG:k≤255:=by omega
  obtain⟨z,hz⟩:=ε ((k - i) % k);have aH:z<k:=by rw[hz];exact Nat.mod_lt _ (by omega)
  have af:=ak z (by rw[Y];omega);rw[show (QqI D)[z]?.getD 0=ci (pw D.g z) from Qas _ (by omega)]at af;have T:D.q - 1=k:=by omega
  have ag:pw D.g z=inv u:=by
   have h1:pw D.g ((k - i) % (D.q - 1))=pw D.g (k - i):=QdE (F:=R D.z) (k - i);have h2:pw D.g ((D.q - 1) % (D.q - 1))=pw D.g (D.q - 1):=QdE (F:=R D.z) (D.q - 1);rw[Nat.mod_self,T]at h2;rw[T]at h1;rw[hz,h1];apply Qc1;have h3:u=pw D.g i:=by rw[U,Qnn D I]
   rw[h3,←QcL,show i+(k - i)=k by omega,←h2];rfl
  rw[ag]at af;rw[ha]at hb O;rw[T]at c4;rw[hk]at c3 c5;have aw:Hid (((k:Int) - (i:Int)) % (k:Int)=(z:Int)):=by unfold Hid;rw[hz,show ((k:Int) - (i:Int))=((k - i:Nat):Int) by omega];rfl
  have aI:a<k+1:=by omega
  have aJ:i<k:=by omega
  clear aj ak ha U ad ag I Y X T hz hk am an ab ap V au;go_enter Tryz.func130,Tryz.ntmps130;go_wp2_with fail;refine O.out.mono ?_;rintro e w1 ⟨rfl,rfl⟩;go_wp2_with fail;have i1:(a:Int)<(k:Int)+1:=by omega
  have i3:(0:Int)≤(k:Int) - (i:Int):=by omega
  have i4:(z:Int)<(k:Int):=by omega
  have aM:¬ k=0:=by omega
  have e1:IntKind.i64.wrap ((k:Int) - (i:Int))=(k:Int) - (i:Int):=IntWalk.i64_in _ (by omega);have e2:IntKind.i64.wrap (k:Int)=(k:Int):=IntWalk.i64_in _ (by omega);have e3:((k:Int) - (i:Int)).tmod (k:Int)=(z:Int):=(Int.tmod_eq_emod_of_nonneg i3).trans aw.out;go_quiet (fail);clear e1 e2 e3;go_wp2_with fail;go_ret2;exact⟨⟨_,rfl,fun _=>rfl⟩,Qbj κ _⟩
theorem QgL (D:FD)(x:Int)(g:Nat)(w:World)(I:GF w w.heap.size g D) :
  Calls Tryz.prog 130 #[.pointer (some ⟨g,0,none⟩),.int .i64 x] w fun e w'=>(∃t,e=.returned (.tuple #[.int .i64 (ci (inv (eli D.z x))),.int .i64 t]))∧Below w.heap.size w w' :=
 (Qmg D x g w I).mono fun _ _ ⟨⟨t,h,_⟩,J⟩=>⟨⟨t,h⟩,J⟩
theorem Qpf (D:FD)(x:Int)(g:Nat)(w:World)(I:GF w w.heap.size g D)(J:eli D.z x≠0) :
  Calls Tryz.prog 130 #[.pointer (some ⟨g,0,none⟩),.int .i64 x] w fun e w'=>e=.returned (.tuple #[.int .i64 (ci (inv (eli D.z x))),.int .i64 0])∧Below w.heap.size w w' :=
 (Qmg D x g w I).mono fun _ _ ⟨⟨t,h,h0⟩,O⟩=>⟨by rw[h,h0 J],O⟩
theorem QgM (D:FD)(x:Int)(g:Nat)(w:World)(V:GF w w.heap.size g D) :
  Calls Tryz.prog 92 #[.pointer (some ⟨g,0,none⟩),.int .i64 x] w fun e w'=>e=.returned (.int .i64 (ci (-(eli D.z x))))∧Below w.heap.size w w':=by
 have aO:=D.q2;have aP:=D.q256;have aQ:=D.p2;have aR:=D.p256;have Y:=QeA D x g w V;generalize eli D.z x=u at *;have c0:=V.c0;have ay:=V.lt;clear V;obtain⟨a,O⟩:=ε (QaA u);have aS:a<D.q:=by rw[O];exact QaM u
 rw[show ci u=(a:Int) by rw[O];rfl]at Y;replace Y:=η Y;have aT:a≤255:=by omega
 replace O:=η O;go_enter Tryz.func92,Tryz.ntmps92;go_wp2_with fail;refine Y.out.mono ?_;rintro e w1 ⟨rfl,rfl⟩;go_wp2_with fail;go_loopw [1,5,6] (fun x s pl wr=>∃k X S P:Nat,x=.int .i64 X∧s=.int .i64 S∧pl=.int .i64 P∧k≤D.m∧X≤255∧S≤256∧P≤256 ∧
  Hid (X=a / D.p ^ k)∧Hid (S=Qds D.p (di (-u)) k)∧Hid (P=D.p ^ k)∧Below w.heap.size w wr) (fun x _ _ _=>(intOf x).toNat)
 case atStart=>exact⟨0,a,0,1,rfl,rfl,rfl,by omega,by omega,by omega,by omega,by simp[Hid],rfl,by simp[Hid],κ⟩
 case round =>
  obtain⟨k,X,S,P,rfl,rfl,rfl,hk,hX,hS,hP,ac,aw,ax,am⟩:=hrel;have aU:=(am.cell (p:=⟨g,0,none⟩) ay).trans c0;by_cases hz:X=0
  ·subst hz;have az:Hid ((S:Int)=ci (-u)):=by
    unfold Hid ci;rw[aw.out,Qq1 u hk (by rw[←O.out];exact ac.out.symm)]
   go_wp2_with fail;go_ret;exact⟨Qa2 az.out,am⟩
  ·have aq:k<D.m:=by
    rcases Nat.lt_or_ge k D.m with h |h
    ·exact h
    ·exfalso;apply hz;rw[ac.out,O.out];exact Qew u h
   have ar:D.p ^ (k+1)≤256:=τ (Nat.pow_le_pow_right (by omega) aq) D.hq;have ag:=QoQ u aq;rw[←O.out,←ac.out]at ag;have aA:=Qf2 (p:=D.p) (m:=k+1) (f:=di (-u)) (fun i _=>Qd3 _ i);have aa:Qds D.p (di (-u)) (k+1)=S+(D.p - X % D.p) % D.p*P:=by
    show Qds D.p (di (-u)) k+di (-u) k*D.p ^ k=_
    rw[aw.out,ag,ax.out]
   have ab:P*D.p=D.p ^ (k+1):=by rw[ax.out,Nat.pow_succ]
   have au:=Nat.mod_lt X (show 0<D.p by omega);have av:=Nat.div_le_self X D.p;obtain⟨I,ad⟩:=ε (X % D.p);obtain⟨z',an⟩:=ε ((D.p - I) % D.p);obtain⟨J,ao⟩:=ε (z'*P);obtain⟨T,U⟩:=ε (X / D.p);obtain⟨P2,ap⟩:=ε (P*D.p);have aB:Hid (T=a / D.p ^ (k+1)):=by unfold Hid;rw[U,ac.out,Nat.pow_succ,Nat.div_div_eq_div_mul]
   rw[←ad,←an,←ao]at aa;rw[←ap]at ab;have aV:S+J≤256:=by rw[←aa];omega
   have aW:P2≤256:=by rw[ab];exact ar
   have aX:T≤X:=by rw[U];exact av
   have aY:T<X:=by rw[U];exact Nat.div_lt_self (by omega) (by omega)
   have aZ:I<D.p:=by rw[ad];exact au
   have ah:(X:Int) % (D.p:Int)=(I:Int):=by rw[ad];rfl
   have ai:((D.p:Int) - (I:Int)) % (D.p:Int)=(z':Int):=by rw[an,show ((D.p:Int) - (I:Int))=((D.p - I:Nat):Int) by omega];rfl
   have aj:(z':Int)*(P:Int)=(J:Int):=by rw[ao,Int.natCast_mul]
   have ak:(P:Int)*(D.p:Int)=(P2:Int):=by rw[ap,Int.natCast_mul]
   have al:(X:Int) / (D.p:Int)=(T:Int):=by rw[U];rfl
   have aC:Hid (S+J=Qds D.p (di (-u)) (k+1)):=aa.symm;have aD:Hid (P2=D.p ^ (k+1)):=ab;replace ah:=η ah;replace ai:=η ai;replace aj:=η aj;replace ak:=η ak;replace al:=η al;clear ad an ao U ap aa ab ag aA au av ar;have a0:0<X:=by omega
   go_wp2_with fail;have a1:¬ D.p=0:=by omega
   have f1:(X:Int).tmod (D.p:Int)=(I:Int):=(Int.tmod_eq_emod_of_nonneg (by omega)).trans ah.out;have f3:IntKind.i64.wrap ((D.p:Int) - (I:Int))=(D.p:Int) - (I:Int):=IntWalk.i64_in _ (by omega);have f4:((D.p:Int) - (I:Int)).tmod (D.p:Int)=(z':Int):=(Int.tmod_eq_emod_of_nonneg (by omega)).trans ai.out;have f6:IntKind.i64.wrap (J:Int)=(J:Int):=IntWalk.i64_in _ (by omega);have f7:IntKind.i64.wrap ((S:Int)+(J:Int))=(S:Int)+(J:Int):=IntWalk.i64_in _ (by omega);have f5:=aj.out;go_quiet (fail);clear f1 f3 f4 f5 f6 f7;have g5:=ak.out;have g6:=al.out;go_wp2_with fail;clear g5 g6;go_roundw
   case rel=>exact⟨k+1,T,S+J,P2,rfl,by go_num,rfl,by omega,by omega,by omega,by omega,aB,aC,aD,Qbj am _⟩
   case measure=>simp[intOf];omega
theorem QgN (D:FD)(x y:Int)(g:Nat)(w:World)(O:GF w w.heap.size g D) :
  Calls Tryz.prog 34 #[.pointer (some ⟨g,0,none⟩),.int .i64 x,.int .i64 y] w fun e w'=>e=.returned (.int .i64 (ci (eli D.z x - eli D.z y)))∧Below w.heap.size w w':=by
 have T:=fun W h=>η (QgM D y g W h)
 have I:=fun W h=>(Qcf D x (ci (-(eli D.z y))) g W h)
 rw[Qam]at I;replace I:=fun W h=>η (I W h)
 have U:Hid (ci (eli D.z x+-(eli D.z y))=ci (eli D.z x - eli D.z y)):=by unfold Hid;first |rfl |rw[sub_eq]
 go_enter Tryz.func34,Tryz.ntmps34;go_wp2_with fail;(with_reducible refine (T _ O).out.mono ?_);rintro e w1 ⟨rfl,J⟩;go_wp2_with fail;(with_reducible refine (I _ (O.bm J)).out.mono ?_);rintro e X ⟨rfl,V⟩;go_wp2_with fail;go_ret;exact⟨by rw[←U.out];rfl,ζ J V⟩
end
end Go.Proofs
