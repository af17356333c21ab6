/- Layer 5 of the program: DivMod. -/
import Derived.Lib.MinMax
import Derived.Test.YtogfekjbpcfgmaaGreatZtkAlvP
set_option maxRecDepth 100000
set_option maxHeartbeats 16000000
set_option linter.unusedVariables false
namespace Go.Proofs
open Go.RowKit Cw
section
open Cw.CField (inv)
attribute [local go_sem high] Go.Lib.run_max_ints
def QjA (D:Desc)(p q:List Int)(w:World)(e:Ending)(w':World):Prop :=
 ∃I J O T Ar U,e=.returned (.tuple #[.slice O I.length T,.slice Ar J.length U,.int .i64 0])∧Own w' w.heap.size (.slice O I.length T) I∧Rd w' w'.heap.size Ar J∧QmG D p q I J∧Below w.heap.size w w'
theorem Quu {n k:Nat} {f h:Nat→Int} (e:∀i,i<k→f i=h i):mix n k f h=lst n h:=by
 unfold mix;exact Qay fun i _=>by
  by_cases I:i<k
  ·rw[if_pos I,e i I]
  ·rw[if_neg I]
theorem Qfk (F:FD)(p q:List Int)(d:Nat)(hq:(QaD F.z q).length=d+1)(A1 A2:Option Addr)(c1 c2 g:Nat)(w:World)(hg:GF w w.heap.size g F)(bX:Rd w w.heap.size A1 p)(bY:Rd w w.heap.size A2 q)(bZ:p.length≤20000)(b0:q.length≤20000) :
  Calls Tryz.prog 182 #[.pointer (some ⟨g,0,none⟩),.slice A1 p.length c1,.slice A2 q.length c2] w (QjA F.z p q w):=by
 have ax:=Qa4 F.z p;have a5:=Qa4 F.z q;obtain⟨A,hA⟩:=ε ((QaD F.z p).length);obtain⟨Q,hQ⟩:=ε (A - d);have an:=Qwb hq hA.symm hQ;have ai:=fun W a b=>Qfe F p A1 c1 g W a b (by omega)
 have af:=fun W a b=>Qfe F q A2 c2 g W a b (by omega)
 have b1:LtD (cfR F.z p) A:=fun t ht=>by rw[←Qbe];exact Qao F.z (by omega)
 have a6:cfR F.z q d≠0:=by rw[←Qbe];exact Qa1 (QaZ F.z q) hq
 have aM:LtD (cfR F.z q) (d+1):=fun t ht=>by rw[←Qbe];exact Qao F.z (by omega)
 rw[←hA]at ai ax;rw[hq]at af a5;obtain⟨np,aQ⟩:=ε (p.length);obtain⟨nq,aR⟩:=ε (q.length);rw[←aQ]at ai ax;rw[←aR]at af a5;have cI:np≤20000:=by omega
 have cJ:nq≤20000:=by omega
 have e1:cfI F.z p=fun i=>ci (cfR F.z p i):=rfl
 have e2:cfI F.z q=fun i=>ci (cfR F.z q i):=rfl
 rw[e1]at ai;rw[e2]at af;obtain⟨iv,az⟩:=ε (inv (cfR F.z q d));rw[←az]at an;obtain⟨f,hf⟩:=ε (cfR F.z p);obtain⟨k,hk⟩:=ε (cfR F.z q);rw[←hf]at an ai b1;rw[←hk]at an af a6 az aM;obtain⟨N,hN⟩:=ε (d+1);rw[←hN]at af a5;rw[←aQ,←aR];have cK:((N:Int)==0)=false:=by rw[beq_eq_false_iff_ne];omega
 have cL:IntKind.i64.wrap ((N:Int) - 1)=(d:Int):=by rw[IntWalk.i64_in _ (by omega)];omega
 have cM:(0:Int)≤(d:Int):=by omega
 have cN:(d:Int)<(N:Int):=by omega
 have b2:IntKind.i64.wrap ((A:Int) - (N:Int))=(Q:Int) - 1∨A≤d:=by
  by_cases h:A≤d
  ·exact .inr h
  ·left;rw[IntWalk.i64_in _ (by omega)];omega
 have cO:IntKind.i64.wrap ((A:Int) - (N:Int))=(A:Int) - (N:Int):=IntWalk.i64_in _ (by omega);have cP:IntKind.i64.wrap ((A:Int) - (N:Int)+1)=(A:Int) - (N:Int)+1:=IntWalk.i64_in _ (by omega);have cQ:max (0:Int) ((A:Int) - (N:Int)+1)=(Q:Int):=by omega
 have a7:(0≤(A:Int) - (N:Int)∧(A:Int) - (N:Int)=(Q:Int) - 1 - ((0:Nat):Int))∨((A:Int) - (N:Int)<0∧Q=0):=by omega
 have b3:=QaC Q (by omega);have hI:=fun W a=>Qpf F (ci (k d)) g W a (by rw[Qam];exact a6)
 rw[Qam,←az]at hI;obtain⟨zi,aS⟩:=ε (ci iv);obtain⟨ld,aT⟩:=ε (ci (k d));rw[←aS,←aT]at hI;have bw:d<nq:=by omega
 have cR:A≤d+Q:=by omega
 have a8:∀s n,Q=n+1+s→n+d<np∧n+d<A∧A=n+1+s+d:=fun s n h=>by omega
 have a9:∀s n j,Q=n+1+s→j<N→n+j<np∧n+j<A:=fun s n j V h2=>by omega
 have bx:=fun f' A' c' W a b c=>η (QdP A f' A' c' W a (by omega) b c)
 have bz:=fun f' A' c' W a b c=>η (QdP Q f' A' c' W a (by omega) b c)
 replace ai:=fun W a b=>η (ai W a b)
 replace af:=fun W a b=>η (af W a b)
 replace hI:=fun W a=>η (hI W a)
 replace a8:=η a8;replace a9:=η a9;replace an:=η an;replace hf:=η hf;replace hk:=η hk;replace hA:=η hA;replace hQ:=η hQ;replace aQ:=η aQ;replace aR:=η aR;replace hN:=η hN;replace az:=η az;replace aS:=η aS;replace aT:=η aT;replace aM:=η aM;replace a7:=η a7;clear b2 hq e1 e2 bZ b0 a6;unfold QjA;go_enter Tryz.func182,Tryz.ntmps182;go_wp2_with fail;(with_reducible refine (ai w hg bX).out.mono ?_);rintro e w1 ⟨I,rfl,bV,O,am⟩;have bA:=hg.bm am;go_wp2_with fail;(with_reducible refine (af w1 bA (bY.bm am)).out.mono ?_);rintro e w2 ⟨gk,rfl,cE,X,aH⟩;have bb:=O.below aH O.lt;have bc:=ζ am aH;have cS:I<gk:=θ O.lt cE;have bB:=X.cell (i:=d) (by rw[Qab];exact bw);rw[Qas _ bw,←aT.out]at bB;have bC:=bA.bm aH;clear O am aH;go_wp2_with fail;(with_reducible refine (hI w2 bC).out.mono ?_);rintro e w3 ⟨rfl,au⟩;have aU:=ζ bc au;have be:=bb.below au bb.lt;have bf:=X.below au X.lt;have b4:=bC.bm au;have b5:I<w3.heap.size:=be.lt;have b6:gk<w3.heap.size:=bf.lt;obtain⟨J,aB⟩:=ε (w3.heap.size);obtain⟨Y,hY⟩:=ε (w3.alloc (.cells (Array.replicate Q (Value.int .i64 0)) 3));have aV:IB Y J (lst Q fun i=>ci (Qif f k iv d Q 0 i)):=by
  rw[hY,aB,Qay (g:=fun _=>0) (fun i hi=>by unfold Qif;rw[if_neg (by omega),QaF]),←Qd2];exact IB.newz w3 _
 have ap:Below w3.heap.size w3 Y:=by rw[hY];exact β
 have aW:IB Y I (lst np fun i=>ci (QeX f k iv d Q 0 i)):=be.below ap b5;have aX:=bf.below ap b6;have bD:=ζ aU ap;have cT:=b4.bm ap;have bg:w.heap.size≤J:=by rw[aB];exact aU.size
 have b7:w.heap.size≤gk:=by omega
 have bE:I≠J:=by omega
 have b8:gk≠J:=by omega
 have b9:gk≠I:=by omega
 have cU:∃B,w.heap.size≤B∧B≤I∧B≤J∧B≤gk:=⟨w.heap.size,Nat.le_refl _,bV,bg,b7⟩;replace aV:=η aV;replace aW:=η aW;replace aX:=η aX;replace hY:=η hY;replace aB:=η aB;clear ai af hI bB au bb be X bf ap bc aU;go_wp2_with fail;rw[←hY.out];simp only[←aB.out];clear b3;go_loopw [11] (fun v wr=>∃ (s:Nat) (x:Int),s≤Q∧v=.int .i64 x∧Hid ((0≤x∧x=(Q:Int) - 1 - (s:Int))∨(x<0∧s=Q))∧Hid (IB wr I (lst np fun i=>ci (QeX f k iv d Q s i)))∧Hid (IB wr J (lst Q fun i=>ci (Qif f k iv d Q s i)))∧Hid (IB wr gk (lst nq fun i=>ci (k i)))∧Below w.heap.size w wr) (fun v _=>(intOf v+1).toNat)
 case atStart =>
  refine⟨0,_,Nat.zero_le _,rfl,?_,aW,aV,aX,bD⟩;rcases a7.out with ⟨V,h2⟩ |⟨V,h2⟩
  ·exact .inl ⟨V,h2⟩
  ·exact .inr ⟨V,h2.symm⟩
 case round =>
  clear aW aV aX bD;obtain⟨wo,rfl⟩:=ε (wr:World);obtain⟨s,x,hs,rfl,hx,O,ag,X,aa⟩:=hrel;have bF:=hg.bm aa;by_cases dd:0≤x
  ·obtain⟨n,rfl⟩:∃n:Nat,x=(n:Int):=⟨x.toNat,by omega⟩;have hn:Q=n+1+s:=by rcases hx.out with ⟨V,h2⟩ |⟨V,h2⟩ <;> omega
   obtain⟨V,h2,h3⟩:=a8.out s n hn;have cV:IntKind.i64.wrap ((n:Int)+(N:Int))=(n:Int)+(N:Int):=IntWalk.i64_in _ (by omega);obtain⟨nd,bk⟩:=ε (n+d);have cW:IntKind.i64.wrap ((n:Int)+(N:Int) - 1)=(nd:Int):=by rw[IntWalk.i64_in _ (by omega)];have:=hN.out;omega
   have cX:(0:Int)≤(nd:Int):=by omega
   have cY:(nd:Int)<(A:Int):=by omega
   have cZ:(n:Int)<(Q:Int):=by omega
   have bh:=O.out.cell (i:=nd) (by rw[Qab];omega);rw[Qas _ (by omega)]at bh;have U:=QbZ F (ci (QeX f k iv d Q s nd)) zi g wo bF;rw[Qam,show eli F.z zi=iv from by rw[aS.out,Qam]]at U;have bi:QeX f k iv d Q s nd*iv=Qn8 f k iv d Q n:=by rw[Qqe hn,bk]
   rw[bi]at U;replace bi:=η bi;obtain⟨y1,bl⟩:=ε (ci (QeX f k iv d Q s nd));obtain⟨av,aC⟩:=ε (ci (Qn8 f k iv d Q n));rw[←bl]at bh U;rw[←aC]at U;have cc:Hid ((lst Q fun i=>ci (Qif f k iv d Q s i)).set n av=lst Q fun i=>ci (Qif f k iv d Q (s+1) i)):=by
    unfold Hid;rw[Qd1];exact Qay fun i hi=>by
     rw[QkJ hn];by_cases e:i=n
     ·rw[if_pos e,if_pos e,aC,e];unfold Qif;rw[if_neg (by omega),Qai]
     ·rw[if_neg e,if_neg e,Qad]
   have bj:=fun j hj=>a9.out s n j hn hj
   have cd:Hid (∀i,i<n→QeX f k iv d Q (s+1) i=QeX f k iv d Q s i):=fun i hi=>by rw[QeD hn,if_neg (by omega),Qa3]
   have ce:Hid (∀i,n+N≤i→QeX f k iv d Q s i=QeX f k iv d Q (s+1) i):=fun i hi=>by rw[QeD hn,if_pos (by omega),aM.out _ (by have:=hN.out;omega),Qac,Qa3]
   have cf:Hid (∀j,QeX f k iv d Q s (n+j) - Qn8 f k iv d Q n*k j=QeX f k iv d Q (s+1) (n+j)):=fun j=>by rw[QeD hn,if_pos (by omega),show n+j - n=j by omega]
   have cg:s+1≤Q:=by omega
   have c3:Hid (IntKind.i64.wrap ((n:Int) - 1)=(n:Int) - 1):=IntWalk.i64_in _ (by omega);have ch:Hid ((0≤(n:Int) - 1∧(n:Int) - 1=(Q:Int) - 1 - ((s+1:Nat):Int))∨((n:Int) - 1<0∧s+1=Q)):=by unfold Hid;omega
   have bG:=η U;replace bj:=η bj;replace hn:=η hn;replace bk:=η bk;replace bl:=η bl;replace aC:=η aC;clear U V h2 h3;go_wp2_with fail;(with_reducible refine bG.out.mono ?_);rintro e w4 ⟨rfl,aI⟩;have bH:=η (O.out.below aI O.out.lt);have aY:=ag.out.below aI ag.out.lt;have bI:=η (X.out.below aI X.out.lt);have cj:=aY.cell (i:=n) (by rw[Qab];have:=hn.out;omega);have cm:=aY.frozen n;have aD:=aY.set_ n av;rw[cc.out]at aD;replace aD:=η aD;have bJ:Hid (IB (w4.setCell ⟨J,n,none⟩ (.int .i64 av)) I (mix np (n+0) (fun i=>ci (QeX f k iv d Q (s+1) i)) (fun i=>ci (QeX f k iv d Q s i)))):=by
    unfold Hid;rw[Quu fun i hi=>by rw[cd.out i (by omega)]];exact bH.out.far (p:=⟨J,n,none⟩) bE _
   have bK:=η (bI.out.far (p:=⟨J,n,none⟩) b8 (.int .i64 av));have bL:Below w.heap.size w (w4.setCell ⟨J,n,none⟩ (.int .i64 av)):=(ζ aa aI).setCell (p:=⟨J,n,none⟩) bg _;clear bh O ag X bH aY bI bG aa aI bF;go_wp2_with fail;clear cj cm;go_loopw [69] (fun v wr=>∃j:Nat,j≤N∧v=.int .i64 j∧Hid (IB wr I (mix np (n+j) (fun i=>ci (QeX f k iv d Q (s+1) i)) (fun i=>ci (QeX f k iv d Q s i))))∧Hid (IB wr J (lst Q fun i=>ci (Qif f k iv d Q (s+1) i)))∧Hid (IB wr gk (lst nq fun i=>ci (k i)))∧Below w.heap.size w wr) (fun v _=>N - (intOf v).toNat)
   case atStart=>exact⟨0,by omega,rfl,bJ,aD,bK,bL⟩
   case round =>
    clear bJ aD bK bL;obtain⟨wi,rfl⟩:=ε (wr:World);obtain⟨j,hj,rfl,O,ag,X,aa⟩:=hrel;by_cases cH:j<N
    ·have c4:(0:Int)≤(j:Int):=by omega
     have c5:(j:Int)<(N:Int):=by omega
     obtain⟨V,h2⟩:=bj.out j cH;have bm:=X.out.cell (i:=j) (by rw[Qab];omega);rw[Qas _ (by omega)]at bm;have aE:=O.out.cell (i:=n+j) (by rw[Qce];exact V);rw[Qc2 _ _ V]at aE;have bo:=hg.bm aa;have U:=QbZ F av (ci (k j)) g wi.drew bo.drew;have hS:=fun W h=>QgN F (ci (QeX f k iv d Q s (n+j))) (ci (Qn8 f k iv d Q n*k j)) g W h
     rw[Qam,Qam,cf.out j]at hS;rw[show eli F.z av=Qn8 f k iv d Q n from by rw[aC.out,Qam],Qam]at U;obtain⟨y2,bq⟩:=ε (ci (k j));obtain⟨y3,br⟩:=ε (ci (QeX f k iv d Q s (n+j)));obtain⟨y4,aF⟩:=ε (ci (QeX f k iv d Q (s+1) (n+j)));obtain⟨z,hz⟩:=ε (ci (Qn8 f k iv d Q n*k j));rw[←bq]at bm U;rw[←hz]at U hS;rw[←br]at aE hS;rw[←aF]at hS;replace U:=η U;replace hS:=fun W h=>η (hS W h)
     have c6:IntKind.i64.wrap ((n:Int)+(j:Int))=(n:Int)+(j:Int):=IntWalk.i64_in _ (by omega);have c7:(0:Int)≤(n:Int)+(j:Int):=by omega
     have c8:(n:Int)+(j:Int)<(A:Int):=by omega
     have c9:((n:Int)+(j:Int)).toNat=n+j:=by omega
     have bp:=O.out.lt;have cn:=ag.out.lt;have co:=X.out.lt;replace bq:=η bq;replace br:=η br;replace aF:=η aF;replace hz:=η hz;go_wp2_with fail;refine wp_region_held_drew (S:=fun w'=>True) (by kernel_rfl) (by (try dsimp only);all_goals trivial) (fun hHeld=>?_);refine tk 0 ?_;simp only[pS]
     refine tk 1 ?_;simp only[pS]
     refine tk 2 ?_;simp only[pS]
     refine tk 3 ?_;simp only[pS]
     refine tk 4 ?_;simp only[pS]
     refine tk 5 ?_;simp only[pS]
     refine tk 6 ?_;simp only[pS]
     refine tk 7 ?_;simp only[pS]
     refine tk 8 ?_;simp only[pS]
     refine tk 9 ?_;simp only[pS]
     refine tk 11 ?_;simp only[pS]
     refine tk 12 ?_;simp only[pS]
     refine tk 13 ?_;simp only[pS]
     refine wpAnyH_ready (rs:=[10,14]) (by kernel_rfl) (by simp) ?_;refine AllReadyH.cons (o:=⟨_,_,_,_,_,_⟩) rfl (fun K T=>?_) ?_
     all_goals first
      |(go_simp
        refine T.out _ _ (by (try dsimp only);all_goals trivial) (fun hHeld=>?_);clear T K;try simp only[pS]
        refine rd 14 fun K T=>?_
        go_simp;go_at_call 90;(with_reducible refine (U).out.mono ?_);rintro e w6 ⟨rfl,ae⟩;have bM:=(ae.cell (p:=⟨I,n+j,none⟩) bp).trans aE;have bN:wi.heap.size≤w6.heap.size:=ae.size;have bO:=hS w6 (bo.drew.bm ae);go_wp2_with fail)
      |(refine AllReadyH.cons (o:=⟨_,_,_,_,_,_⟩) rfl (fun K T=>?_) AllReadyH.nil
        go_simp;go_at_call 90;(with_reducible refine (U).out.mono ?_);rintro e w6 ⟨rfl,ae⟩;have bM:=(ae.cell (p:=⟨I,n+j,none⟩) bp).trans aE;have bN:wi.heap.size≤w6.heap.size:=ae.size;have bO:=hS w6 (bo.drew.bm ae);go_wp2_with fail;refine T.out _ _ (by (try dsimp only);all_goals trivial) (fun hHeld=>?_);clear T K;try simp only[pS]
        refine rd 10 fun K T=>?_
        go_simp)
     all_goals
      refine T.out _ _ (by (try dsimp only);all_goals trivial) (fun hHeld=>?_);clear T K;try simp only[pS]
      refine rd 15 fun K T=>?_
      go_simp;go_at_call 34;(with_reducible refine (bO).out.mono ?_);rintro e w7 ⟨rfl,cF⟩;have aZ:Below wi.heap.size wi w7:=((Below.refl _ wi).drew.trans ae).trans (cF.mono bN);have bs:=O.out.below aZ bp;have cp:=η (ag.out.below aZ cn);have cq:=η (X.out.below aZ co);have cr:=bs.cell (i:=n+j) (by rw[Qce];exact V);have cs:=bs.frozen (n+j);go_wp2_with fail;refine T.out _ _ (by (try dsimp only);all_goals trivial) (fun hHeld=>?_);clear T K;try simp only[pS]
      refine tk 16 ?_;simp only[pS]
      refine rd 17 fun K T=>?_
      go_simp;refine T.out _ _ (by (try dsimp only);all_goals trivial) (fun hHeld=>?_);clear T K;try simp only[pS]
      refine δ ?_;have a0:=bs.set_ (n+j) y4;rw[aF.out,Qf0,←aF.out]at a0;replace a0:=η a0;have ct:=η (cp.out.far (p:=⟨I,n+j,none⟩) bE.symm (.int .i64 y4));have cu:=η (cq.out.far (p:=⟨I,n+j,none⟩) b9 (.int .i64 y4));have cv:Below w.heap.size w (w7.setCell ⟨I,n+j,none⟩ (.int .i64 y4)):=(ζ aa aZ).setCell (p:=⟨I,n+j,none⟩) bV _;clear bM cr cs aE bm;go_wp2_with fail;go_roundw
      case rel=>exact⟨j+1,by omega,by go_num,a0,ct,cu,cv⟩
      case measure=>simp[intOf];omega
    ·obtain rfl:N=j:=by omega
     have a1:=O.out;rw[Qlx fun i hi=>by rw[ce.out i hi]]at a1;replace a1:=η a1;go_wp2_with fail;go_roundw
     case rel=>exact⟨s+1,(n:Int) - 1,cg,rfl,ch,a1,ag,X,aa⟩
     case measure=>simp[intOf]
  ·have cw:s=Q:=by rcases hx.out with ⟨V,h2⟩ |⟨V,h2⟩ <;> omega
   subst cw;have cx:=bz (fun i=>ci (Qif f k iv d s s i)) (some ⟨J,0,none⟩) s wo ag.out.rd ρ (by unfold maxLen;omega);have cy:=bx (fun i=>ci (QeX f k iv d s s i)) (some ⟨I,0,none⟩) np wo (O.out.rd.lst_take ax) ax (by unfold maxLen;omega);have cz:=QbY (fun i=>ci (Qif f k iv d s s i)) s;have cA:=QbY (fun i=>ci (QeX f k iv d s s i)) A;have cB:s≤maxLen:=by unfold maxLen;omega
   clear bz bx;go_wp2_with fail;(with_reducible refine cx.out.mono ?_);rintro e w8 ⟨rfl,rfl⟩;go_wp2_with fail;(with_reducible refine cy.out.mono ?_);rintro e w9 ⟨rfl,rfl⟩;go_wp2_with fail;go_ret3;exact⟨Qep (fun i=>ci (Qif f k iv d s s i)) s,Qep (fun i=>ci (QeX f k iv d s s i)) A,some ⟨J,0,none⟩,s,some ⟨I,0,none⟩,np,by rw[QaH,QaH];rfl,by rw[QaH];exact Own.of_take ag.out cz bg cB,(O.out.rd.lst_take (τ cA ax)),by rw[hf.out,hk.out]at *;exact an.out,aa⟩
end
section
open Cw.CField (inv)
theorem Qqk {F:FD} {p:List Int} (hp:QaD F.z p=p){x:R F.z} (J:x≠0):QaD F.z (QaK F.z p.length fun j=>x*cfR F.z p j)=QaK F.z p.length (fun j=>x*cfR F.z p j)∧∀t,cfR F.z (QaK F.z p.length fun j=>x*cfR F.z p j) t=x*cfR F.z p t:=by
 have O:∀t,cfR F.z (QaK F.z p.length fun j=>x*cfR F.z p j) t=x*cfR F.z p t:=fun t=>by
  by_cases U:t<p.length
  ·unfold cfR;rw[Qa0 _ _ U,Qam]
  ·rw[Qao F.z (by rw[Qae];omega),Qao F.z (show p.length≤t by omega),Qac]
 refine⟨?_,O⟩;have T:QaD F.z (QaK F.z p.length fun j=>x*cfR F.z p j)=Qep (fun i=>ci (x*cfR F.z p i)) p.length:=Qea F.z (fun j=>x*cfR F.z p j) p.length;rw[T];rcases Nat.eq_zero_or_pos p.length with h0 |h0
 ·rw[h0];rfl
 ·obtain⟨n,I⟩:∃n,p.length=n+1:=⟨p.length - 1,by omega⟩;rw[I,QfB (f:=fun i=>ci (x*cfR F.z p i)) (n:=n) (fun e=>QaS J (Qa1 hp I) (Qaq.1 e))];rfl
def Quv (F:FD)(p:List Int)(w:World)(e:Ending)(w':World):Prop :=
 ∃l A c E,e=.returned (.tuple #[.slice A l.length c,.int .i64 E])∧Rd w' w'.heap.size A l∧Qdy F.z (plI F.z p) 0 l∧l.length=p.length∧Below w.heap.size w w'
theorem Qoc (F:FD)(p:List Int)(hp:QaD F.z p=p)(A1:Option Addr)(c1 g:Nat)(w:World)(hg:GF w w.heap.size g F)(ao:Rd w w.heap.size A1 p)(hl:p.length≤20000) :
  Calls Tryz.prog 183 #[.pointer (some ⟨g,0,none⟩),.slice A1 p.length c1] w (Quv F p w):=by
 have J:=Qcl F p A1 c1 g w hg ao (by omega);rw[hp]at J;have hI:=fun x W h=>η (QgL F x g W h)
 have V:=fun a A c W O T=>Qis F p.length (fun j=>cfR F.z p j) a A c g W O T (by omega)
 have ad:QaK F.z p.length (fun j=>cfR F.z p j)=p:=by
  have O:QaD F.z p=lst p.length (cfI F.z p):=by
   have T:QaD F.z p=lst (QaD F.z p).length (cfI F.z p):=by unfold QaD;rw[QaH];rfl
   rw[hp]at T;rw[hp];exact T
  rw[hp]at O;exact O.symm
 rw[ad]at V;replace J:=η J;replace V:=fun a A c W O T=>η (V a A c W O T)
 obtain⟨n,I⟩:=ε (p.length);rw[←I]at J V hl ⊢;by_cases h0:n=0
 ·have hz:Hid (p=[]):=List.eq_nil_of_length_eq_zero (by omega);have ar:((n:Int)==0)=true:=by rw[beq_iff_eq];omega
  have X:Hid (Qdy F.z (plI F.z p) 0 []∧([]:List Int).length=p.length):=by rw[hz.out,Qfj];exact⟨Qdy.nil,rfl⟩
  replace I:=η I;replace h0:=η h0;clear hp ad hz;go_enter Tryz.func183,Tryz.ntmps183;go_wp2_with fail;(with_reducible refine J.out.mono ?_);rintro e w1 ⟨A,c,rfl,hr,-,-,-,U⟩;rw[←I.out];go_wp2_with fail;go_ret2;exact⟨[],none,0,7,rfl,Rd.nil,X.out.1,X.out.2,U⟩
 ·obtain⟨m,hm⟩:∃m,n=m+1:=⟨n - 1,by omega⟩;have ar:((n:Int)==0)=false:=by rw[beq_eq_false_iff_ne];omega
  have aE:IntKind.i64.wrap ((n:Int) - 1)=(m:Int):=by rw[IntWalk.i64_in _ (by omega)];omega
  have aF:(0:Int)≤(m:Int):=by omega
  have aG:(m:Int)<(n:Int):=by omega
  have ai:cfR F.z p m≠0:=Qa1 hp (by omega);have hx:inv (cfR F.z p m)≠0:=Qby ai;obtain⟨al,am⟩:=Qqk hp hx;have X:Hid (Qdy F.z (plI F.z p) 0 (QaK F.z n fun j=>inv (cfR F.z p m)*cfR F.z p j)):=by
   rw[I];exact Qdy.monic hx al am
  have au:m<p.length:=by omega
  obtain⟨y,Y⟩:=ε (p[m]?.getD 0);have av:Hid (eli F.z y=cfR F.z p m):=by rw[Y];rfl
  replace I:=η I;replace hm:=η hm;clear hp ad ai hx al am;go_enter Tryz.func183,Tryz.ntmps183;go_wp2_with fail;(with_reducible refine J.out.mono ?_);rintro e w1 ⟨A,c,rfl,hr,az,aI,-,U⟩;rw[←I.out]at az ⊢;obtain⟨ba,oa,rfl,aH,an⟩:=hr.at_ au;rw[←Y]at an;replace Y:=η Y;have af:=hI y w1 (hg.bm U);rw[av.out]at af;go_wp2_with fail;(with_reducible refine af.out.mono ?_);rintro e w2 ⟨⟨t,rfl⟩,ah⟩;have aa:=ζ U ah;have ak:=V (ci (inv (cfR F.z p m))) (some ⟨ba,oa,none⟩) c w2 (hg.bm aa) (hr.bm ah);rw[Qam]at ak;clear an af;go_wp2_with fail;(with_reducible refine ak.out.mono ?_);rintro e w3 ⟨gs,rfl,aJ,aC,aD⟩;rw[Qae];have aw:=ζ aa aD;go_wp2_with fail;go_ret2;exact⟨QaK F.z n fun j=>inv (cfR F.z p m)*cfR F.z p j,some ⟨gs,0,none⟩,n,0,by rw[Qae];rfl,aC.rd,X.out,by rw[Qae];exact I.out,aw⟩
def Quw (F:FD)(p q:List Int)(w:World)(e:Ending)(w':World):Prop :=
 ∃l A c,e=.returned (.slice A l.length c)∧Rd w' w'.heap.size A l∧Qdy F.z (plI F.z p) (plI F.z q) l∧Below w.heap.size w w'
def Qsd:Value→Nat
 | .slice _ n _=>n
 |_=>0
theorem Qse (F:FD)(p q:List Int)(A1 A2:Option Addr)(c1 c2 g:Nat)(w:World)(hg:GF w w.heap.size g F)(ax:Rd w w.heap.size A1 p)(ay:Rd w w.heap.size A2 q)(a8:p.length≤20000)(a9:q.length≤20000) :
  Calls Tryz.prog 125 #[.pointer (some ⟨g,0,none⟩),.slice A1 p.length c1,.slice A2 q.length c2] w (Quw F p q w):=by
 have ao:=η (Qcl F p A1 c1 g w hg ax (by omega));have ap:=fun W h1 h2=>η (Qcl F q A2 c2 g W h1 h2 (by omega))
 have hD:=fun a b hb A B ca cb W h1 h2 h3 h4 h5=>η (Qfk F a b (b.length - 1) hb A B ca cb g W h1 h2 h3 h4 h5)
 have hM:=fun a ha A ca W h1 h2 h3=>η (Qoc F a ha A ca g W h1 h2 h3)
 have az:=Qa4 F.z p;have aA:=Qa4 F.z q;have ac:Hid (∀l,Qdy F.z (plI F.z (QaD F.z p)) (plI F.z (QaD F.z q)) l→Qdy F.z (plI F.z p) (plI F.z q) l):=fun l h=>by rw[QcB,QcB]at h;exact h
 have aq:=η (QaZ F.z p);have ar:=η (QaZ F.z q);obtain⟨p0,ad⟩:=ε (QaD F.z p);obtain⟨q0,ae⟩:=ε (QaD F.z q);rw[←ad]at ao az ac aq;rw[←ae]at ap aA ac ar;replace ad:=η ad;replace ae:=η ae;go_enter Tryz.func125,Tryz.ntmps125;go_wp2_with fail;(with_reducible refine ao.out.mono ?_);rintro e w1 ⟨I,ca,rfl,U,aV,aW,-,J⟩;have aB:=ap w1 (hg.bm J) (ay.bm J);go_wp2_with fail;(with_reducible refine aB.out.mono ?_);rintro e w2 ⟨Ab,cb,rfl,V,aX,aY,-,ai⟩;have aC:=ζ J ai;have aD:=U.bm ai;have aE:p0.length≤20000:=by omega
 have aF:q0.length≤20000:=by omega
 clear ao ap aB U J ai ax ay az aA;go_wp2_with fail;go_loopw [1,2,7,8,9] (fun va vb _ _ _ wr=>∃ (a b:List Int) (I:Option Addr) (ca:Nat) (Ab:Option Addr) (cb:Nat),va=.slice I a.length ca∧vb=.slice Ab b.length cb∧Rd wr wr.heap.size I a∧Rd wr wr.heap.size Ab b∧Hid (QaD F.z a=a)∧Hid (QaD F.z b=b)∧a.length≤20000∧b.length≤20000∧Hid (∀l,Qdy F.z (plI F.z a) (plI F.z b) l→Qdy F.z (plI F.z p) (plI F.z q) l)∧Below w.heap.size w wr) (fun _ vb _ _ _ _=>Qsd vb)
 case atStart=>exact⟨p0,q0,I,ca,Ab,cb,rfl,rfl,aD,V,aq,ar,aE,aF,ac,aC⟩
 case round =>
  clear aD V aq ar aE aF ac aC ad ae aV aW aX aY;obtain⟨w3,rfl⟩:=ε (wr:World);obtain⟨a,b,I,ca,Ab,cb,rfl,rfl,U,V,aU,au,aH,aI,X,O⟩:=hrel;have aG:=hg.bm O;by_cases T:b.length=0
  ·have aM:Hid (b=[]):=List.eq_nil_of_length_eq_zero T;have aN:¬ (0:Int)<(b.length:Int):=by omega
   have hq:=hM a aU.out I ca w3 aG U aH;rw[aM.out,Qfj]at X;replace T:=η T;go_wp2_with fail;(with_reducible refine hq.out.mono ?_);rintro e w4 ⟨l,A,c,E,rfl,aZ,aJ,-,Y⟩;have aO:=η (X.out l aJ);clear aJ X;go_wp2_with fail;go_ret;exact⟨l,A,c,rfl,aZ,aO.out,ζ O Y⟩
  ·have aN:(0:Int)<(b.length:Int):=by omega
   have hq:=hD a b (by rw[au.out];omega) I Ab ca cb w3 aG U V aH aI;replace T:=η T;go_wp2_with fail;(with_reducible refine hq.out.mono ?_);rintro e w4 ⟨bb,aj,Aq,cq,Ar,cr,rfl,a1,a2,ak,Y⟩;have aP:=ak.lt;rw[au.out]at aP;have aQ:Hid (QaD F.z aj=aj):=ak.cr;have aR:Hid (∀l,Qdy F.z (plI F.z b) (plI F.z aj) l→Qdy F.z (plI F.z p) (plI F.z q) l):=fun l h=>X.out l (Qdy.step ak h)
   have aS:=V.bm Y;have aT:=ζ O Y;clear ak X a1 hq;go_wp2_with fail;go_roundw
   case rel=>exact⟨b,aj,Ab,cb,Ar,cr,rfl,rfl,aS,a2,au,aQ,aI,by omega,aR,aT⟩
   case measure=>simp[Qsd];omega
theorem Qsf (F:FD)(p:List Int)(A1:Option Addr)(c1 g:Nat)(w:World)(hg:GF w w.heap.size g F)(aJ:Rd w w.heap.size A1 p)(hl:p.length≤20000) :
  Calls Tryz.prog 126 #[.pointer (some ⟨g,0,none⟩),.slice A1 p.length c1] w (QeB (Qh3 F.z p) w):=by
 obtain⟨n,U⟩:=ε (p.length);by_cases h0:n=0
 ·have hz:Hid (Qh3 F.z p=[]):=by
   have:p=[]:=List.eq_nil_of_length_eq_zero (by omega);rw[this];rfl
  have aK:((n:Int)==0)=true:=by rw[beq_iff_eq];omega
  rw[←U];replace U:=η U;replace h0:=η h0;go_enter Tryz.func126,Tryz.ntmps126;go_wp2_with fail;go_ret;rw[hz.out];exact⟨none,0,rfl,Rd.nil,Nat.le_refl _,Nat.zero_le _,fun a e=>(by cases e),κ⟩
 ·obtain⟨m,hm⟩:∃m,n=m+1:=⟨n - 1,by omega⟩;have aK:((n:Int)==0)=false:=by rw[beq_eq_false_iff_ne];omega
  have a5:IntKind.i64.wrap ((n:Int) - 1)=(m:Int):=by rw[IntWalk.i64_in _ (by omega)];omega
  have aL:=QaC m (by omega);have a6:(0:Int)≤(m:Int):=by omega
  have a7:=F.z.p2;have a8:=F.z.p256;have a9:¬ (F.p:Int)=0:=by omega
  have bb:¬ F.p=0:=by omega
  have bc:m≤20000:=by omega
  obtain⟨f,hf⟩:=ε (fun i=>ci (nsm (i+1) (cfR F.z p (i+1))):Nat→Int)
  have an:Hid (Qh3 F.z p=lst (QeY f m) f):=by unfold Hid Qh3 Qep;rw[←U,hm,Nat.add_sub_cancel,hf]
  have ay:=η (QdJ F g);have aM:=fun x y W h=>η (QbZ F x y g W h)
  have hT:=fun A c W h1 h2 h3=>η (QdP m f A c W h1 (by omega) h2 h3)
  have aO:Hid (∀k:Nat,k<m→ci (eli F.z (((k+1) % F.p:Nat):Int)*eli F.z (p[k+1]?.getD 0))=f k):=fun k _=>by
   rw[Qut,hf]
   show ci (nsm (k+1) 1*cfR F.z p (k+1))=ci (nsm (k+1) (cfR F.z p (k+1)))
   rw[←Qcv]
  rw[←U];replace an:=an;replace U:=η U;replace hm:=η hm;replace hf:=η hf;replace h0:=η h0;obtain⟨O,ad⟩:=ε (w.heap.size);obtain⟨Y,hY⟩:=ε (w.alloc (.cells (Array.replicate m (Value.int .i64 0)) 3));have ao:IB Y O (upd m 0 f):=by rw[hY,ad,QaP];exact IB.newz w m
  have ab:Below w.heap.size w Y:=by rw[hY];exact β
  have I:=(ay.out Y (hg.bm ab));have az:w.heap.size≤O:=Nat.le_of_eq ad.symm;replace I:=η I;replace hY:=η hY;clear ay;go_enter Tryz.func126,Tryz.ntmps126;go_wp2_with fail;rw[←hY.out];simp only[←ad];replace ad:=η ad;(with_reducible refine I.out.mono ?_);rintro e w1 ⟨A3,c3,rfl,-,-,au⟩;have aA:=ao.below au ao.lt;have aB:=ζ ab au;clear I ao au ab;have aP:∀W:World,(Instr.field 24 (.agg #[.int .i64 F.p,.int .i64 F.m,.slice A3 F.mod.length c3]) 0).run Tryz.prog W=.ok (.int .i64 F.p) W:=fun _=>by kernel_rfl
  go_wp2_with fail;clear aP;go_loopw [20,7] (fun iS _ wr=>∃k:Nat,k≤m∧iS=.int .i64 k∧Hid (IB wr O (upd m k f))∧Below w.heap.size w wr) (fun iS _ _=>m - (intOf iS).toNat)
  case atStart=>exact⟨0,by omega,rfl,aA,aB⟩
  case round =>
   clear aA aB aL;obtain⟨J,rfl⟩:=ε (wr:World);obtain⟨k,hk,rfl,ae,V⟩:=hrel;have aQ:=ae.out.lt;by_cases aI:k<m
   ·have k0:(0:Int)≤(k:Int):=by omega
    have k1:(k:Int)<(m:Int):=by omega
    have k2:(0:Int)≤(k:Int)+1:=by omega
    have k3:(k:Int)+1<(n:Int):=by have:=hm.out;omega
    have kw:IntKind.i64.wrap ((k:Int)+1)=(k:Int)+1:=by rw[IntWalk.i64_in _ (by omega)]
    obtain⟨T,aj⟩:=ε (k+1:Nat);have aU:(k:Int)+1=(T:Int):=by omega
    obtain⟨md,ak⟩:=ε ((k+1) % F.p:Nat);have ht:(T:Int).tmod (F.p:Int)=(md:Int):=by rw[Int.tmod_eq_emod_of_nonneg (by omega),ak,aj];rfl
    rw[aU]at kw k2 k3;obtain⟨X,oa,rfl,aG,aH⟩:=aJ.at_ (k:=T) (by have:=U.out;have:=hm.out;omega);have ap:=(V.cell (p:=⟨X,oa+T,none⟩) aG).trans aH;obtain⟨y,hy⟩:=ε (p[T]?.getD 0);rw[←hy]at ap;have ai:=aO.out k aI;rw[←ak,←aj,←hy]at ai;have aC:Below J.heap.size J J.drew:=(Below.refl _ J).drew;have I:=aM (md:Int) y J.drew ((hg.bm V).below aC);replace I:=I.out;rw[ai]at I;obtain⟨z,hz⟩:=ε (f k);rw[←hz]at I;replace I:=η I;replace hz:=η hz;have bg:J.drew.cell? ⟨X,oa+T,none⟩=some (.int .i64 y):=ap;have aq:=η ap;clear aH;replace ai:=η ai;replace aj:=η aj;replace ak:=η ak;replace hy:=η hy;have aD:X<J.heap.size:=θ aG V.size;go_wp2_with fail;refine wp_region_held_drew (S:=fun w'=>w'.cell? ⟨X,oa+T,none⟩=some (.int .i64 y)) (by kernel_rfl) (by (try dsimp only);exact aq.out) (fun hHeld=>?_);refine tk 0 ?_;simp only[pS]
    refine tk 1 ?_;simp only[pS]
    refine tk 2 ?_;simp only[pS]
    refine tk 3 ?_;simp only[pS]
    refine tk 4 ?_;simp only[pS]
    refine tk 5 ?_;simp only[pS]
    refine tk 6 ?_;simp only[pS]
    refine tk 7 ?_;simp only[pS]
    refine tk 8 ?_;simp only[pS]
    refine tk 9 ?_;simp only[pS]
    refine tk 10 ?_;simp only[pS]
    refine tk 11 ?_;simp only[pS]
    refine rd 12 fun K hK=>?_
    go_simp;go_at_call 90;(with_reducible refine (I).out.mono ?_);rintro e w3 ⟨rfl,am⟩;have ar:=(show IB J.drew O (upd m k f) from ae.out).below am aQ;have bh:=ar.cell (i:=k) (by rw[Qaz];exact aI);have bi:=ar.frozen k;have aE:=ar.set_ k z;rw[hz.out,QaY,←hz.out]at aE;have aV:=η aE;have aW:O≠X:=(by omega);have aX:=η ((V.trans ((aC.trans am).mono V.size)).setCell (p:=⟨O,k,none⟩) az (.int .i64 z));go_wp2_with fail;refine hK.out _ _ ((am.cell (p:=⟨X,oa+T,none⟩) aD).trans aq.out) fun hHeld=>?_;clear hK K;try simp only[pS]
    refine tk 13 ?_;simp only[pS]
    refine rd 14 fun K hK=>?_
    go_simp;refine hK.out _ _ ((World.cell?_setCell_far _ _ _ _ aW).trans ((am.cell (p:=⟨X,oa+T,none⟩) aD).trans aq.out)) fun hHeld=>?_;clear hK K;try simp only[pS]
    refine δ ?_;go_wp2_with fail;go_roundw
    case rel=>exact⟨k+1,by omega,by go_num,aV,aX.out⟩
    case measure=>simp[intOf];omega
   ·obtain rfl:k=m:=by omega
    rw[QaR]at ae;have I:=hT (some ⟨O,0,none⟩) k J ae.out.rd ρ (by unfold maxLen;omega);have aF:QeY f k≤k:=QbY f k;have aY:Hid (Rd J J.heap.size (some ⟨O,0,none⟩) (lst (QeY f k) f)):=ae.out.rd.lst_take aF;go_wp2_with fail;(with_reducible refine I.out.mono ?_);rintro e w3 ⟨rfl,rfl⟩;go_wp2_with fail;go_ret;rw[an.out];exact⟨some ⟨O,0,none⟩,k,by rw[Qab];rfl,aY.out,by rw[Qab];exact aF,by unfold maxLen;omega,fun a e=>by cases e;exact az,V⟩
end
end Go.Proofs
