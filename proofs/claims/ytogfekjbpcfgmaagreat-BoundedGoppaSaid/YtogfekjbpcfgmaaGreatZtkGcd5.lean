/- The reference's polynomials: Monic, Gcd, times, Derivative. -/
import Derived.Test.YtogfekjbpcfgmaaGreatZtkGcdW
import Derived.Test.YtogfekjbpcfgmaaGreatZtkDiv7
set_option maxRecDepth 100000
set_option maxHeartbeats 16000000
set_option linter.unusedVariables false
namespace Go.Proofs
open Go.RowKit Cw
open Cw.CField (inv)
theorem Qdy.stepQ {D:Desc} {p q r l:List Int} (J:QmS D p q r)(h:Qdy D (plI D q) (plI D r) l):Qdy D (plI D p) (plI D q) l:=by
 obtain⟨k,I⟩:=J;refine⟨h.can,?_,h.da,?_⟩
 ·rw[I];exact (h.da.mul _).add h.db
 ·obtain⟨u,v,e⟩:=h.bez;refine⟨v,u - v*k,?_⟩;rw[←e,I,QaQ,QbV,Qbw,Qbb,Qa6];rw[show v*(k*plI D q)+v*plI D r+(u*plI D q+-(v*(k*plI D q)))=u*plI D q+v*plI D r+(v*(k*plI D q)+-(v*(k*plI D q))) by ac_rfl,QaU,Qad]
def Qm4 (F:FD)(p:List Int)(w:World)(e:Ending)(w':World):Prop :=
 ∃l A c,e=.returned (.slice A l.length c)∧Rd w' w'.heap.size A l∧Qdy F.z (plI F.z p) 0 l∧Below w.heap.size w w'
theorem Qom (F:FD)(n:Nat)(x:Int)(A:Option Addr)(c:Nat)(w:World)(hn:n≤1000000) :
  Calls Tryz.prog 190 #[.agg #[.int .i64 F.p,.int .i64 F.m,.slice A F.mod.length c],.int .i64 n,.int .i64 x] w fun e w'=>e=.returned (.int .i64 (ci (nsm n (eli F.z x))))∧Below w.heap.size w w':=by
 have aj:=F.p2;have ak:=F.p256;obtain⟨m,O⟩:=ε (n % F.p);have al:(n:Int).tmod (F.p:Int)=(m:Int):=by rw[Int.tmod_eq_emod_of_nonneg (by omega),O];rfl
 have am:¬ (F.p:Int)=0:=by omega
 have an:m≤256:=by have:=Nat.mod_lt n (show 0<F.p by omega);omega
 obtain⟨f,J⟩:∃f:Nat→R F.z,f=fun k=>nsm k (eli F.z x):=⟨_,rfl⟩
 have ac:Hid (f m=nsm n (eli F.z x)):=by
  rw[Hid,J,O]
  show nsm (n % F.p) (eli F.z x)=_
  rw[Qcv,Qjf Qfx,←Qcv]
 have ad:Hid ((0:Int)=ci (f 0)):=by rw[Hid,J];show (0:Int)=ci (nsm 0 (eli F.z x));rw[QdY,QaF]
 have U:∀k W,Calls Tryz.prog 118 #[.agg #[.int .i64 F.p,.int .i64 F.m,.slice A F.mod.length c],.int .i64 (ci (f k)),.int .i64 x] W fun e w'=>e=.returned (.int .i64 (ci (f (k+1))))∧Below W.heap.size W w':=fun k W=>by
  have X:=Qd7 F.z (ci (f k)) x A F.mod.length c W;rw[Qam,show f k+eli F.z x=f (k+1) from by rw[J];show nsm k (eli F.z x)+eli F.z x=nsm (k+1) (eli F.z x);rw[Qcd]]at X;exact X
 replace U:=fun k W=>η (U k W)
 rw[←ac.out];have aa:=η (Bx.new w F.z A F.mod.length c 24);obtain⟨Y,I⟩:=ε (w.alloc (.cells #[.int .i64 F.p,.int .i64 F.m,.slice A F.mod.length c] 24));rw[←I]at aa;have hB:Below w.heap.size w Y:=by rw[I];exact β
 have ae:w.heap.size<Y.heap.size:=by rw[I];simp
 replace I:=η I;replace O:=η O;replace J:=η J;go_enter Tryz.func190,Tryz.ntmps190;go_wp2_with fail;rw[←I.out];go_loopw [7,8] (fun vo V wr=>∃k:Nat,k≤m∧V=.int .i64 k∧vo=.int .i64 (ci (f k))∧Below Y.heap.size Y wr) (fun _ V _=>m - (intOf V).toNat)
 case atStart=>exact⟨0,by omega,rfl,by rw[←ad.out],κ⟩
 case round =>
  obtain⟨w1,rfl⟩:=ε (wr:World);obtain⟨k,hk,rfl,rfl,T⟩:=hrel;obtain⟨q0,q1,q2⟩:=(aa.out.below T ae).cells;by_cases aw:k<m
  ·have k0:(0:Int)≤(k:Int):=by omega
   have k1:(k:Int)<(m:Int):=by omega
   have hq:=U k w1;go_wp2_with fail;(with_reducible refine hq.out.mono ?_);rintro e w2 ⟨rfl,ag⟩;go_wp2_with fail;go_roundw
   case rel=>exact⟨k+1,by omega,by go_num,rfl,ζ T ag⟩
   case measure=>simp[intOf];omega
  ·obtain rfl:m=k:=by omega
   go_wp2_with fail;go_ret;exact⟨rfl,ζ hB T⟩
theorem Qon (F:FD)(p:List Int)(A A1:Option Addr)(c c1:Nat)(w:World)(aG:Rd w w.heap.size A1 p)(hl:p.length≤20000) :
  Calls Tryz.prog 136 #[.agg #[.int .i64 F.p,.int .i64 F.m,.slice A F.mod.length c],.slice A1 p.length c1] w fun e w'=>∃A' c',e=.returned (.slice A' (Qh3 F.z p).length c')∧Rd w' w'.heap.size A' (Qh3 F.z p)∧Below w.heap.size w w':=by
 obtain⟨n,O⟩:=ε (p.length);obtain⟨X,J⟩:=ε (w.alloc (.cells #[.int .i64 F.p,.int .i64 F.m,.slice A F.mod.length c] 24));have ah:Below w.heap.size w X:=by rw[J];exact β
 have ao:X.heap.size=w.heap.size+1:=by rw[J];simp
 have ap:Bx X w.heap.size F.z A F.mod.length c:=by rw[J];exact Bx.new w F.z A F.mod.length c _
 by_cases h0:n=0
 ·have hz:Hid (Qh3 F.z p=[]):=by
   have:p=[]:=List.eq_nil_of_length_eq_zero (by omega);rw[this];rfl
  have aH:((n:Int)==0)=true:=by rw[beq_iff_eq];omega
  rw[←O];replace O:=η O;replace h0:=η h0;replace J:=η J;clear ao ap;go_enter Tryz.func136,Tryz.ntmps136;go_wp2_with fail;rw[←J.out];go_ret;rw[hz.out];exact⟨none,0,rfl,Rd.nil,ah⟩
 ·obtain⟨m,hm⟩:∃m,n=m+1:=⟨n - 1,by omega⟩;have aH:((n:Int)==0)=false:=by rw[beq_eq_false_iff_ne];omega
  have aZ:IntKind.i64.wrap ((n:Int) - 1)=(m:Int):=by rw[IntWalk.i64_in _ (by omega)];omega
  have a0:=QaC m (by omega);have a1:(0:Int)≤(m:Int):=by omega
  have a2:m≤20000:=by omega
  obtain⟨f,hf⟩:∃f:Nat→R F.z,f=fun i=>nsm (i+1) (cfR F.z p (i+1)):=⟨_,rfl⟩
  have hT:=fun y i W (hi:i≤20000)=>Qom F (i+1) y A c W (by omega)
  have az:=Qea F.z f m;rw[show Qep (fun i=>ci (f i)) m=Qh3 F.z p from by rw[hf];unfold Qh3;rw[←O,hm,Nat.add_sub_cancel]]at az;have hC:=fun A' c' W h=>QaN F.z (lst m fun i=>ci (f i)) A A' c c' W h (by rw[Qab];omega)
  rw[az,Qab]at hC;obtain⟨g,hg⟩:=ε (w.heap.size+1);obtain⟨Y,hY⟩:=ε (X.alloc (.cells (Array.replicate m (Value.int .i64 0)) 3));have T:IB Y g (upd m 0 fun i=>ci (f i)):=by rw[QaP,hY,hg,←ao];exact IB.newz X m
  have aq:Below X.heap.size X Y:=by rw[hY];exact β
  have aB:=ζ ah aq;have aC:=ap.below aq (by omega);have ar:w.heap.size<g:=by omega
  rw[←O];replace hm:=η hm;replace O:=η O;replace h0:=η h0;replace hf:=η hf;replace J:=η J;replace hY:=η hY;clear ap ah ao aq;go_enter Tryz.func136,Tryz.ntmps136;go_wp2_with fail;rw[←J.out];rw[←hY.out];simp only[←hg];replace hg:=η hg;go_loopw [6] (fun iS wr=>∃i:Nat,i≤m∧iS=.int .i64 i∧Hid (IB wr g (upd m i fun i=>ci (f i)))∧Bx wr w.heap.size F.z A F.mod.length c∧Below w.heap.size w wr) (fun iS _=>m - (intOf iS).toNat)
  case atStart=>exact⟨0,by omega,rfl,T,aC,aB⟩
  case round =>
   clear T aC aB J hY;obtain⟨V,rfl⟩:=ε (wr:World);obtain⟨i,hi,rfl,T,aE,ac⟩:=hrel;have aJ:=T.out.lt;have aK:w.heap.size<V.heap.size:=by omega
   by_cases aX:i<m
   ·have i0:(0:Int)≤(i:Int):=by omega
    have i1:(i:Int)<(m:Int):=by omega
    have kw:IntKind.i64.wrap ((i:Int)+1)=(i:Int)+1:=by rw[IntWalk.i64_in _ (by omega)]
    obtain⟨I,ak⟩:=ε (i+1:Nat);have aM:(i:Int)+1=(I:Int):=by omega
    have k2:(0:Int)≤(I:Int):=by omega
    have k3:(I:Int)<(n:Int):=by have:=hm.out;omega
    rw[aM]at kw;obtain⟨b,o,rfl,hb,hc⟩:=aG.at_ (k:=I) (by have:=O.out;have:=hm.out;omega);have ab:=hT (p[I]?.getD 0) i V.drew (by omega);rw[←ak,show nsm I (eli F.z (p[I]?.getD 0))=f i from by rw[hf.out,ak];rfl]at ab;obtain⟨y,hy⟩:=ε (p[I]?.getD 0);obtain⟨v,hv⟩:=ε (ci (f i));rw[←hy]at hc ab;rw[←hv]at ab;have hd:=(ac.cell (p:=⟨b,o+I,none⟩) hb).trans hc;have aN:=θ hb ac.size;have aO:b≠g:=by omega
    have au:=η (show _∧_ from ⟨aE.cells,hd⟩);have aP:Hid (i<(upd m i fun i=>ci (f i)).length):=by unfold Hid;rw[Qaz];exact aX
    replace ab:=η ab;replace hy:=η hy;replace hv:=η hv;replace ak:=η ak;clear hc hd;go_wp2_with fail;refine wp_region_held_drew (S:=fun w'=>(w'.cell? ⟨w.heap.size,0,none⟩=some (.int .i64 F.p)∧w'.cell? ⟨w.heap.size,1,none⟩=some (.int .i64 F.m)∧w'.cell? ⟨w.heap.size,2,none⟩=some (.slice A F.mod.length c))∧w'.cell? ⟨b,o+I,none⟩=some (.int .i64 y)) (by kernel_rfl) (by (try dsimp only);exact au.out) (fun hHeld=>?_);refine tk 0 ?_;simp only[pS]
    refine tk 1 ?_;simp only[pS]
    refine tk 2 ?_;simp only[pS]
    refine tk 3 ?_;simp only[pS]
    refine tk 4 ?_;simp only[pS]
    refine tk 5 ?_;simp only[pS]
    refine tk 6 ?_;simp only[pS]
    refine tk 7 ?_;simp only[pS]
    refine tk 8 ?_;simp only[pS]
    refine tk 9 ?_;simp only[pS]
    refine rd 10 fun K hK=>?_
    go_simp;go_at_call 190;(with_reducible refine (ab).out.mono ?_);rintro e w3 ⟨rfl,aW⟩;have U:=(Below.refl V.heap.size V).drew.trans aW;have a7:=U.size;have al:=η (show _∧_ from ⟨Qau U aK au.out.1,(U.cell (p:=⟨b,o+I,none⟩) aN).trans au.out.2⟩);have af:=T.out.below U aJ;have aQ:=af.cell aP.out;have aR:=af.frozen i;go_wp2_with fail;refine hK.out _ _ al.out fun hHeld=>?_;clear hK K;try simp only[pS]
    refine tk 11 ?_;simp only[pS]
    refine rd 12 fun K hK=>?_
    go_simp;refine hK.out _ _ (by (try dsimp only);exact⟨Qau (B:=g) (κ.setCell (p:=⟨g,i,none⟩) ρ _) ar al.out.1,(World.cell?_setCell_far _ _ _ _ aO.symm).trans al.out.2⟩) (fun hHeld=>?_);clear hK K;try simp only[pS]
    refine δ ?_;have am:=af.set_ i v;rw[hv.out,QaY (f:=fun i=>ci (f i)),←hv.out]at am;have aS:Hid (Below w.heap.size w (w3.setCell ⟨g,i,none⟩ (.int .i64 v))):=(ζ ac U).setCell (p:=⟨g,i,none⟩) (Nat.le_of_lt ar) _;have aT:Hid (Bx (w3.setCell ⟨g,i,none⟩ (.int .i64 v)) w.heap.size F.z A F.mod.length c):=Qau (B:=g) (κ.setCell (p:=⟨g,i,none⟩) ρ _) ar al.out.1;replace am:=η am;clear aQ aR;go_wp2_with fail;go_roundw
    case rel=>exact⟨i+1,by omega,by go_num,am,aT.out,aS.out⟩
    case measure=>simp[intOf];omega
   ·obtain rfl:i=m:=by omega
    rw[QaR]at T;obtain⟨q0,q1,q2⟩:=aE.cells;have aU:=η (hC (some ⟨g,0,none⟩) i V T.out.rd);go_wp2_with fail;(with_reducible refine aU.out.mono ?_);rintro e w3 ⟨g3,rfl,-,af,U⟩;go_wp2_with fail;go_ret;exact⟨_,_,rfl,af.rd,ζ ac U⟩
theorem QlX (D:Desc)(a:Int)(p:List Int):QaD D (Qcr D a p)=Qcr D a p:=Qdv _ _ fun i h=>by rw[Qao D h,Qac]
theorem Qoo (F:FD)(p:List Int)(A A1:Option Addr)(c c1:Nat)(w:World)(hr:Rd w w.heap.size A (Qan F.z))(aD:Rd w w.heap.size A1 p)(hl:p.length≤20000) :
  Calls Tryz.prog 189 #[.agg #[.int .i64 F.p,.int .i64 F.m,.slice A F.mod.length c],.slice A1 p.length c1] w (Qm4 F p w):=by
 have ag:=η (Bx.new w F.z A F.mod.length c 24);obtain⟨Y,J⟩:=ε (w.alloc (.cells #[.int .i64 F.p,.int .i64 F.m,.slice A F.mod.length c] 24));rw[←J]at ag;have hB:Below w.heap.size w Y:=by rw[J];exact β
 have aq:w.heap.size<Y.heap.size:=by rw[J];simp
 have hC:=η (QaN F.z p A A1 c c1 Y (aD.bm hB) (by omega));have aE:=Qa4 F.z p;have ar:=QaZ F.z p;have au:=η (QcB F.z p);obtain⟨q,hq⟩:=ε (QaD F.z p);rw[←hq]at hC aE ar au;unfold Qm4;rw[←au.out];have hI:=fun x W h=>η (Qe7 F x A c W h)
 have hS:=fun a B1 d1 W h1 h2=>η (Qgb F.z a q A B1 c d1 W h1 h2 (by omega))
 obtain⟨n,T⟩:=ε (q.length);replace J:=η J;replace hq:=η hq;go_enter Tryz.func189,Tryz.ntmps189;obtain⟨q0,q1,q2⟩:=ag.out.cells;go_wp2_with fail;rw[←J.out];(with_reducible refine hC.out.mono ?_);rintro e w1 ⟨V,rfl,aV,an,ao⟩;rw[←T]at hS ⊢;clear q0 q1 q2 hC;obtain⟨q0,q1,q2⟩:=(ag.out.below ao aq).cells;have O:=ζ hB ao;by_cases h0:n=0
 ·have aG:((n:Int)==0)=true:=by rw[beq_iff_eq];omega
  have hz:Hid (q=[]):=List.eq_nil_of_length_eq_zero (by omega);have ab:Hid (Qdy F.z (plI F.z q) 0 []):=by rw[hz.out,Qfj];exact Qdy.nil
  replace T:=η T;replace h0:=η h0;go_wp2_with fail;go_ret;exact⟨[],some ⟨V,0,none⟩,n,by rw[h0.out];rfl,Rd.nil,ab.out,O⟩
 ·obtain⟨m,hm⟩:∃m,n=m+1:=⟨n - 1,by omega⟩;have aG:((n:Int)==0)=false:=by rw[beq_eq_false_iff_ne];omega
  have aS:IntKind.i64.wrap ((n:Int) - 1)=(m:Int):=by rw[IntWalk.i64_in _ (by omega)];omega
  have aT:(0:Int)≤(m:Int):=by omega
  have aU:(m:Int)<(n:Int):=by omega
  have aw:cfR F.z q m≠0:=Qa1 ar (by omega);have hx:inv (cfR F.z q m)≠0:=Qby aw;have ab:Hid (Qdy F.z (plI F.z q) 0 (Qcr F.z (ci (inv (cfR F.z q m))) q)):=Qdy.monic hx (QlX _ _ _) fun t=>by rw[Qf9,Qam]
  obtain⟨y,U⟩:=ε (q[m]?.getD 0);have aj:=an.cell (i:=m) (by omega);rw[←U]at aj;have ay:=(hr.bm O);have ak:=hI y w1.drew ay.drew;rw[U,show eli F.z (q[m]?.getD 0)=cfR F.z q m from rfl,←U]at ak;obtain⟨z,hz⟩:=ε (ci (inv (cfR F.z q m)));rw[←hz]at ak ab;have az:=an.lt;have aA:w.heap.size<w1.heap.size:=θ aq ao.size;have al:=η (show _∧_ from ⟨(⟨q0,q1,q2⟩:w1.cell? ⟨w.heap.size,0,none⟩=some (.int .i64 F.p)∧w1.cell? ⟨w.heap.size,1,none⟩=some (.int .i64 F.m)∧w1.cell? ⟨w.heap.size,2,none⟩=some (.slice A F.mod.length c)),aj⟩);have aH:=an.rd;replace T:=η T;replace hm:=η hm;replace U:=η U;replace hz:=η hz;clear aw hx aj q0 q1 q2;go_wp2_with fail;refine wp_region_held_drew (S:=fun w'=>(w'.cell? ⟨w.heap.size,0,none⟩=some (.int .i64 F.p)∧w'.cell? ⟨w.heap.size,1,none⟩=some (.int .i64 F.m)∧w'.cell? ⟨w.heap.size,2,none⟩=some (.slice A F.mod.length c))∧w'.cell? ⟨V,m,none⟩=some (.int .i64 y)) (by kernel_rfl) (by (try dsimp only);exact al.out) (fun hHeld=>?_);refine tk 0 ?_;simp only[pS]
  refine tk 1 ?_;simp only[pS]
  refine tk 2 ?_;simp only[pS]
  refine tk 3 ?_;simp only[pS]
  refine tk 4 ?_;simp only[pS]
  refine tk 5 ?_;simp only[pS]
  refine tk 6 ?_;simp only[pS]
  refine tk 7 ?_;simp only[pS]
  refine tk 9 ?_;simp only[pS]
  refine rd 8 fun K X=>?_
  go_simp;go_at_call 142;(with_reducible refine (ak).out.mono ?_);rintro e w3 ⟨rfl,aL⟩;have I:=(Below.refl w1.heap.size w1).drew.trans aL;have am:=η (show _∧_ from ⟨Qau I aA al.out.1,(I.cell (p:=⟨V,m,none⟩) az).trans al.out.2⟩);have aI:=hS z (some ⟨V,0,none⟩) n w3 (ay.bm I) (aH.bm I);go_wp2_with fail;refine X.out _ _ am.out fun hHeld=>?_;clear X K;try simp only[pS]
  refine rd 10 fun K X=>?_
  go_simp;go_at_call 222;(with_reducible refine (aI).out.mono ?_);rintro e w4 ⟨g4,rfl,aX,aM,ap⟩;have aJ:=η (show _∧_ from ⟨Qau ap (θ aA I.size) am.out.1,(ap.cell (p:=⟨V,m,none⟩) (θ az I.size)).trans am.out.2⟩);have aK:=O.trans ((ζ I ap).mono O.size);go_wp2_with fail;refine X.out _ _ aJ.out fun hHeld=>?_;clear X K;try simp only[pS]
  refine tk 11 ?_;simp only[pS]
  refine δ ?_;go_wp2_with fail;go_ret;exact⟨_,_,_,rfl,aM.rd,ab.out,aK⟩
def Qsy (F:FD)(p q:List Int)(w:World)(e:Ending)(w':World):Prop :=
 ∃l A c,e=.returned (.slice A l.length c)∧Rd w' w'.heap.size A l∧Qdy F.z (plI F.z p) (plI F.z q) l∧Below w.heap.size w w'
theorem Qsz (F:FD)(p q:List Int)(A A1 A2:Option Addr)(c c1 c2:Nat)(w:World)(hr:Rd w w.heap.size A (Qan F.z))(aE:Rd w w.heap.size A1 p)(aF:Rd w w.heap.size A2 q)(bj:p.length≤1000)(bk:q.length≤1000) :
  Calls Tryz.prog 135 #[.agg #[.int .i64 F.p,.int .i64 F.m,.slice A F.mod.length c],.slice A1 p.length c1,.slice A2 q.length c2] w (Qsy F p q w):=by
 have ae:=η (Bx.new w F.z A F.mod.length c 24);obtain⟨Y,J⟩:=ε (w.alloc (.cells #[.int .i64 F.p,.int .i64 F.m,.slice A F.mod.length c] 24));rw[←J]at ae;have I:Below w.heap.size w Y:=by rw[J];exact β
 have aG:w.heap.size<Y.heap.size:=by rw[J];simp
 have aq:=η (QaN F.z p A A1 c c1 Y (aE.bm I) (by omega));have ar:=fun W h=>η (QaN F.z q A A2 c c2 W h (by omega))
 have hD:=fun a b hb B1 B2 d1 d2 W h1 h2 h3 h4 h5=>η (QlW F a b (b.length - 1) hb A B1 B2 c d1 d2 W h1 h2 h3 h4 h5)
 have hM:=fun a B1 d1 W h1 h2 h3=>η (Qoo F a A B1 c d1 W h1 h2 h3)
 have aH:=Qa4 F.z p;have aI:=Qa4 F.z q;have af:Hid (∀l,Qdy F.z (plI F.z (QaD F.z p)) (plI F.z (QaD F.z q)) l→Qdy F.z (plI F.z p) (plI F.z q) l):=fun l h=>by rw[QcB,QcB]at h;exact h
 have au:=η (QaZ F.z p);have av:=η (QaZ F.z q);obtain⟨p0,ag⟩:=ε (QaD F.z p);obtain⟨q0,ah⟩:=ε (QaD F.z q);rw[←ag]at aq aH af au;rw[←ah]at ar aI af av;replace ag:=η ag;replace ah:=η ah;replace J:=η J;go_enter Tryz.func135,Tryz.ntmps135;obtain⟨V,X,x2⟩:=ae.out.cells;go_wp2_with fail;rw[←J.out];(with_reducible refine aq.out.mono ?_);rintro e w1 ⟨ga,rfl,bo,aS,O⟩;clear V X x2;have aJ:=ar w1 ((aF.below (ζ I O)).more (ζ I O).size);obtain⟨V,X,x2⟩:=(ae.out.below O aG).cells;go_wp2_with fail;(with_reducible refine aJ.out.mono ?_);rintro e w2 ⟨gb,rfl,bq,aT,an⟩;have aK:=ζ O an;have aL:=aS.rd.bm an;have T:=aT.rd;have aM:p0.length≤1000:=by omega
 have aN:q0.length≤1000:=by omega
 clear V X x2 aq ar aJ aS aT O an aE aF aH aI;go_wp2_with fail;go_loopw [1,2,7,8] (fun va vb _ _ wr=>∃ (a b:List Int) (Aa:Option Addr) (ca:Nat) (Ab:Option Addr) (cb:Nat),va=.slice Aa a.length ca∧vb=.slice Ab b.length cb∧Rd wr wr.heap.size Aa a∧Rd wr wr.heap.size Ab b∧Hid (QaD F.z a=a)∧Hid (QaD F.z b=b)∧a.length≤1000∧b.length≤1000∧Hid (∀l,Qdy F.z (plI F.z a) (plI F.z b) l→Qdy F.z (plI F.z p) (plI F.z q) l)∧Below Y.heap.size Y wr) (fun _ vb _ _ _=>Qsd vb)
 case atStart=>exact⟨p0,q0,some ⟨ga,0,none⟩,_,some ⟨gb,0,none⟩,_,rfl,rfl,aL,T,au,av,aM,aN,af,aK⟩
 case round =>
  clear aL T au av aM aN af aK ag ah;obtain⟨w3,rfl⟩:=ε (wr:World);obtain⟨a,b,Aa,ca,Ab,cb,rfl,rfl,aP,T,bm,aQ,a5,aR,hK,am⟩:=hrel;have ai:=ζ I am;have aO:=hr.bm ai;obtain⟨V,X,x2⟩:=(ae.out.below am aG).cells;by_cases U:b.length=0
  ·have aZ:Hid (b=[]):=List.eq_nil_of_length_eq_zero U;have a0:¬ (0:Int)<(b.length:Int):=by omega
   have hq:=hM a Aa ca w3 aO aP (by omega);rw[aZ.out,Qfj]at hK;replace U:=η U;go_wp2_with fail;(with_reducible refine hq.out.mono ?_);rintro e w4 ⟨l,A4,c4,rfl,a9,aU,ad⟩;have a1:=η (hK.out l aU);clear aU hK;go_wp2_with fail;go_ret;exact⟨l,A4,c4,rfl,a9,a1.out,ζ ai ad⟩
  ·have a0:(0:Int)<(b.length:Int):=by omega
   have hq:=hD a b (by rw[aQ.out];omega) Aa Ab ca cb w3 aO aP T a5 aR;replace U:=η U;go_wp2_with fail;(with_reducible refine hq.out.mono ?_);rintro e w4 ⟨v,ax,Ar,cr,rfl,bb,aw,br,aV,ad⟩;have bl:ax.length<b.length:=by omega
   have a2:Hid (∀l,Qdy F.z (plI F.z b) (plI F.z ax) l→Qdy F.z (plI F.z p) (plI F.z q) l):=fun l h=>hK.out l (Qdy.stepQ aV h)
   have a3:=T.bm ad;have a4:=ζ am ad;replace aw:=η aw;clear aV hK hq V X x2;go_wp2_with fail;go_roundw
   case rel=>exact⟨b,ax,Ab,cb,Ar,cr,rfl,rfl,a3,bb,aQ,aw,aR,by omega,a2,a4⟩
   case measure=>simp[Qsd];omega
noncomputable def Qti (F:FD)(p:List Int):Bool:=@decide (Cop (plI F.z p) (plI F.z p).D) (Classical.propDecidable _)
theorem Qm5 {F:FD} {p:List Int}:Qti F p=true↔Cop (plI F.z p) (plI F.z p).D:=by unfold Qti;exact @decide_eq_true_iff _ (Classical.propDecidable _)
theorem QqD (F:FD)(p:List Int)(A U:Option Addr)(c c1:Nat)(w:World)(hr:Rd w w.heap.size A (Qan F.z))(ag:Rd w w.heap.size U p)(hl:p.length≤1000) :
  Calls Tryz.prog 75 #[.agg #[.int .i64 F.p,.int .i64 F.m,.slice A F.mod.length c],.slice U p.length c1] w fun e w'=>e=.returned (.bool (Qti F p))∧Below w.heap.size w w':=by
 have aa:=η (Bx.new w F.z A F.mod.length c 24);obtain⟨Y,O⟩:=ε (w.alloc (.cells #[.int .i64 F.p,.int .i64 F.m,.slice A F.mod.length c] 24));rw[←O]at aa;have J:Below w.heap.size w Y:=by rw[O];exact β
 have V:w.heap.size<Y.heap.size:=by rw[O];simp
 have ai:=(hr.bm J);have ab:=(ag.bm J);have hD:=η (Qon F p A U c c1 Y.drew ab.drew (by omega));have ac:(Qh3 F.z p).length≤1000:=by have:(Qh3 F.z p).length≤p.length - 1:=by { unfold Qh3;rw[QaH];exact QbY _ _ };omega
 have hG:=fun B1 d1 W h1 h2 h3=>η (Qsz F p (Qh3 F.z p) A U B1 c c1 d1 W h1 h2 h3 hl ac)
 have al:Hid (∀l,Qdy F.z (plI F.z p) (plI F.z (Qh3 F.z p)) l→((l.length:Int)==1)=Qti F p):=fun l h=>by
  rw[Qjz]at h;rw[Bool.eq_iff_iff,beq_iff_eq,Qm5,←h.one];omega
 have aD:=V;have X:=η aa.out.cells;replace O:=η O;clear ac;go_enter Tryz.func75,Tryz.ntmps75;go_wp2_with fail;rw[←O.out];refine wp_region_held_drew (S:=fun w'=>w'.cell? ⟨w.heap.size,0,none⟩=some (.int .i64 F.p)∧w'.cell? ⟨w.heap.size,1,none⟩=some (.int .i64 F.m)∧w'.cell? ⟨w.heap.size,2,none⟩=some (.slice A F.mod.length c)) (by kernel_rfl) (by (try dsimp only);exact X.out) (fun hHeld=>?_);refine tk 0 ?_;simp only[pS]
 refine tk 1 ?_;simp only[pS]
 refine tk 2 ?_;simp only[pS]
 refine tk 3 ?_;simp only[pS]
 refine rd 4 fun K T=>?_
 go_simp;go_at_call 136;(with_reducible refine (hD).out.mono ?_);rintro e w1 ⟨Ad,cd,rfl,au,av⟩;have I:=(Below.refl Y.heap.size Y).drew.trans av;have am:=η (Qau I V X.out);have an:=hG Ad cd w1 (ai.bm I) (ab.bm I) au;go_wp2_with fail;refine T.out _ _ am.out fun hHeld=>?_;clear T K;try simp only[pS]
 refine rd 5 fun K T=>?_
 go_simp;go_at_call 135;(with_reducible refine (an).out.mono ?_);rintro e w2 ⟨l,Al,cl,rfl,aG,aw,ax⟩;have ad:=ζ I ax;have ao:=η (Qau ad V X.out);have hv:=al.out l aw;have ap:=η (ζ J ad);go_wp2_with fail;refine T.out _ _ ao.out fun hHeld=>?_;clear T K;try simp only[pS]
 refine tk 6 ?_;simp only[pS]
 refine tk 7 ?_;simp only[pS]
 refine tk 8 ?_;simp only[pS]
 refine δ ?_;go_wp2_with fail;go_ret;exact⟨by first |rw[hv] |simp[hv],ap.out⟩
end Go.Proofs
