/- The reference's polynomials: DivMod, Rem. -/
import Derived.Test.YtogfekjbpcfgmaaGreatZtkAlvP
import Derived.Test.YtogfekjbpcfgmaaGreatZtkDiv6
set_option maxRecDepth 100000
set_option maxHeartbeats 16000000
set_option linter.unusedVariables false
namespace Go.Proofs
open Go.RowKit Cw
open CField (inv)
def Qfr (F:FD)(p q:List Int)(d:Nat)(w:World)(e:Ending)(w':World):Prop :=
 ∃v r Ar I,e=.returned (.tuple #[v,.slice Ar r.length I])∧Rd w' w'.heap.size Ar r∧QaD F.z r=r∧r.length≤d∧QmS F.z p q r∧Below w.heap.size w w'
def QuU:Value→Nat
 | .slice _ n _=>n
 |_=>0
theorem Qoj (F:FD)(p q:List Int)(d I:Nat)(J:(QaD F.z q).length=d+1)(hp:(QaD F.z p).length=I)(a8:I<d)(A A1 A2:Option Addr)(c c1 c2:Nat)(w:World)(hr:Rd w w.heap.size A (Qan F.z))(aZ:Rd w w.heap.size A1 p)(a0:Rd w w.heap.size A2 q)(a9:p.length≤1000)(ba:q.length≤1000) :
  Calls Tryz.prog 188 #[.agg #[.int .i64 F.p,.int .i64 F.m,.slice A F.mod.length c],.slice A1 p.length c1,.slice A2 q.length c2] w (Qfr F p q d w):=by
 have a1:=Qa4 F.z q;have a2:=Qa4 F.z p;have X:=fun W h=>QaN F.z q A A2 c c2 W h (by omega)
 have aa:=fun W h=>QaN F.z p A A1 c c1 W h (by omega)
 obtain⟨N,hN⟩:=ε (d+1);obtain⟨q',T⟩:=ε (QaD F.z q);obtain⟨p',U⟩:=ε (QaD F.z p);have aF:plI F.z q'=plI F.z q:=by rw[T,QcB]
 have aq:plI F.z p'=plI F.z p:=by rw[U,QcB]
 have ar:QaD F.z q'=q':=by rw[T,QaZ]
 have au:QaD F.z p'=p':=by rw[U,QaZ]
 unfold Qcj at X aa;rw[←T,←hN]at J;rw[←U]at hp;rw[←T,J,hN]at a1;rw[←T,J]at X;rw[←U,hp]at aa;rw[←U,hp]at a2;have bb:cfR F.z q' d≠0:=Qa1 ar (by rw[J,hN]);have O:=fun W h=>Qe7 F (q'[d]?.getD 0) A c W h
 rw[show eli F.z (q'[d]?.getD 0)=cfR F.z q' d from rfl]at O;obtain⟨z,hz⟩:=ε (ci (inv (cfR F.z q' d)));rw[←hz]at O;obtain⟨lc,ah⟩:=ε (q'[d]?.getD 0);rw[←ah]at O;have bc:(N:Int) - 1=(d:Int):=by omega
 have be:(d:Int)<(N:Int):=by omega
 have bf:(0:Int)≤(d:Int):=by omega
 have bg:d≤1000:=by omega
 have ad:Below w.heap.size w (w.alloc (.cells #[.int .i64 F.p,.int .i64 F.m,.slice A F.mod.length c] 24)):=β;have aG:=η (Bx.new w F.z A F.mod.length c 24);have bh:(I:Int) - (d:Int)<0:=by omega
 have bi:¬ (0:Int)≤(I:Int) - (d:Int):=by omega
 have aH:¬ (0:Int)<(I:Int) - (d:Int):=by omega
 have bj:¬ (d:Int)<(I:Int):=by omega
 have bk:(I:Int)≤(d:Int):=by omega
 have bl:(I:Int)<(d:Int):=by omega
 have hR:I≤1000:=by omega
 replace J:=η J;replace hp:=η hp;replace T:=η T;replace U:=η U;replace aF:=η aF;replace aq:=η aq;replace ar:=η ar;replace au:=η au;replace hz:=η hz;replace ah:=η ah;replace hN:=η hN;replace X:=fun W h=>η (X W h)
 replace aa:=fun W h=>η (aa W h)
 replace O:=fun W h=>η (O W h)
 unfold Qfr;go_enter Tryz.func188,Tryz.ntmps188;go_wp2_with fail;(with_reducible refine (X _ (a0.bm ad)).out.mono ?_);rintro e w1 ⟨g1,rfl,bq,aD,an⟩;have ae:=ζ ad an;have aI:w.heap.size<w1.heap.size:=by have:=an.size;simp only[World.size_alloc]at this;omega
 have av:=η (aG.out.below an (by simp));obtain⟨q0,q1,q2⟩:=av.out.cells;go_wp2_with fail;(with_reducible refine (aa _ (aZ.bm ae)).out.mono ?_);rintro e w2 ⟨g2,rfl,br,aE,ag⟩;clear q0 q1 q2;have ai:=ζ ae ag;have aw:=θ aI ag.size;have ax:=η (av.out.below ag aI);have aj:=aD.below ag aD.lt;have aJ:=aj.lt;have ay:=aj.cell (i:=d) (by rw[J.out,hN.out];omega);rw[←ah.out]at ay;have aK:Rd w2.drew w2.drew.heap.size A (Qan F.z):=(hr.bm ai).drew;have aL:=O w2.drew aK;have ak:=η (show _∧_ from ⟨ax.out.cells,ay⟩);clear ay aa X O an ad ae aD aG av;go_wp2_with fail;refine wp_region_held_drew (S:=fun w'=>(w'.cell? ⟨w.heap.size,0,none⟩=some (.int .i64 F.p)∧w'.cell? ⟨w.heap.size,1,none⟩=some (.int .i64 F.m)∧w'.cell? ⟨w.heap.size,2,none⟩=some (.slice A F.mod.length c))∧w'.cell? ⟨g1,d,none⟩=some (.int .i64 lc)) (by kernel_rfl) (by (try dsimp only);exact ak.out) (fun hHeld=>?_);refine tk 0 ?_;simp only[pS]
 refine tk 1 ?_;simp only[pS]
 refine tk 2 ?_;simp only[pS]
 refine tk 3 ?_;simp only[pS]
 refine tk 4 ?_;simp only[pS]
 refine rd 5 fun K hK=>?_
 go_simp;go_at_call 142;(with_reducible refine (aL).out.mono ?_);rintro e w3 ⟨rfl,aH⟩;have V:=(Below.refl w2.heap.size w2).drew.trans aH;go_wp2_with fail;refine hK.out _ _ (by (try dsimp only);exact⟨Qau V aw ak.out.1,(V.cell (p:=⟨g1,d,none⟩) aJ).trans ak.out.2⟩) (fun hHeld=>?_);clear hK K;try simp only[pS]
 refine tk 6 ?_;simp only[pS]
 refine δ ?_;have aM:=ζ ai V;have a3:=θ aw V.size;have a4:=ax.out.below V aw;have bo:=aj.below V aJ;have aN:=aE.below V aE.lt;clear ak aL ax aj aE aK ag;have aO:=QaC 0 (by omega);rw[show ((0:Nat):Int)=0 from rfl]at aO;obtain⟨gq,aA⟩:=ε (w3.heap.size);obtain⟨Y,hY⟩:=ε (w3.alloc (.cells #[] 3));have az:Below w3.heap.size w3 Y:=by rw[hY];exact β
 have aP:=aN.below az aN.lt;have a5:=a4.below az a3;have aQ:=ζ aM az;have al:=QaN F.z [] A (some ⟨gq,0,none⟩) c 0 Y (fun h=>absurd h (Nat.lt_irrefl _)) (by simp);rw[show ([]:List Int).length=0 from rfl]at al;replace al:=η al;replace hY:=η hY;go_wp2_with fail;rw[←hY.out];simp only[←aA];replace aA:=η aA;clear aO;go_loopw [8] (fun rS wr=>rS=.slice (some ⟨g2,0,none⟩) I I∧wr=Y) (fun _ _=>0)
 case atStart=>exact⟨rfl,rfl⟩
 case round =>
  obtain⟨rfl,rfl⟩:=hrel;obtain⟨q0,q1,q2⟩:=a5.cells;go_wp2_with fail;(with_reducible refine al.out.mono ?_);rintro e w5 ⟨g5,rfl,-,-,aW⟩;have a6:=(aP.below aW aP.lt).rd;have bp:=hp.out;go_wp2_with fail;go_ret2;refine⟨_,p',some ⟨g2,0,none⟩,I,by rw[hp.out];rfl,a6,au.out,by rw[hp.out];omega,QmS.zero aq.out,ζ aQ aW⟩
theorem Qok (F:FD)(p q:List Int)(d:Nat)(I:(QaD F.z q).length=d+1)(hp:(QaD F.z p).length=d)(A A1 A2:Option Addr)(c c1 c2:Nat)(w:World)(hr:Rd w w.heap.size A (Qan F.z))(aX:Rd w w.heap.size A1 p)(aY:Rd w w.heap.size A2 q)(a7:p.length≤1000)(a8:q.length≤1000) :
  Calls Tryz.prog 188 #[.agg #[.int .i64 F.p,.int .i64 F.m,.slice A F.mod.length c],.slice A1 p.length c1,.slice A2 q.length c2] w (Qfr F p q d w):=by
 have aZ:=Qa4 F.z q;have a0:=Qa4 F.z p;have V:=fun W h=>QaN F.z q A A2 c c2 W h (by omega)
 have X:=fun W h=>QaN F.z p A A1 c c1 W h (by omega)
 obtain⟨N,hN⟩:=ε (d+1);obtain⟨q',O⟩:=ε (QaD F.z q);obtain⟨p',T⟩:=ε (QaD F.z p);have aE:plI F.z q'=plI F.z q:=by rw[O,QcB]
 have ap:plI F.z p'=plI F.z p:=by rw[T,QcB]
 have aq:QaD F.z q'=q':=by rw[O,QaZ]
 have ar:QaD F.z p'=p':=by rw[T,QaZ]
 unfold Qcj at V X;rw[←O,←hN]at I;rw[←T]at hp;rw[←O,I,hN]at aZ;rw[←O,I]at V;rw[←T,hp]at X;rw[←T,hp]at a0;have a9:cfR F.z q' d≠0:=Qa1 aq (by rw[I,hN]);have J:=fun W h=>Qe7 F (q'[d]?.getD 0) A c W h
 rw[show eli F.z (q'[d]?.getD 0)=cfR F.z q' d from rfl]at J;obtain⟨z,hz⟩:=ε (ci (inv (cfR F.z q' d)));rw[←hz]at J;obtain⟨lc,ag⟩:=ε (q'[d]?.getD 0);rw[←ag]at J;have ba:(N:Int) - 1=(d:Int):=by omega
 have bb:(d:Int)<(N:Int):=by omega
 have bc:(0:Int)≤(d:Int):=by omega
 have be:d≤1000:=by omega
 have ac:Below w.heap.size w (w.alloc (.cells #[.int .i64 F.p,.int .i64 F.m,.slice A F.mod.length c] 24)):=β;have aF:=η (Bx.new w F.z A F.mod.length c 24);replace I:=η I;replace hp:=η hp;replace O:=η O;replace T:=η T;replace aE:=η aE;replace ap:=η ap;replace aq:=η aq;replace ar:=η ar;replace hz:=η hz;replace ag:=η ag;replace hN:=η hN;replace V:=fun W h=>η (V W h)
 replace X:=fun W h=>η (X W h)
 replace J:=fun W h=>η (J W h)
 unfold Qfr;go_enter Tryz.func188,Tryz.ntmps188;go_wp2_with fail;(with_reducible refine (V _ (aY.bm ac)).out.mono ?_);rintro e w1 ⟨g1,rfl,bh,aC,am⟩;have ad:=ζ ac am;have aG:w.heap.size<w1.heap.size:=by have:=am.size;simp only[World.size_alloc]at this;omega
 have au:=η (aF.out.below am (by simp));obtain⟨q0,q1,q2⟩:=au.out.cells;go_wp2_with fail;(with_reducible refine (X _ (aX.bm ad)).out.mono ?_);rintro e w2 ⟨g2,rfl,bi,aD,af⟩;clear q0 q1 q2;have ah:=ζ ad af;have av:=θ aG af.size;have aw:=η (au.out.below af aG);have ai:=aC.below af aC.lt;have aH:=ai.lt;have ax:=ai.cell (i:=d) (by rw[I.out,hN.out];omega);rw[←ag.out]at ax;have aI:Rd w2.drew w2.drew.heap.size A (Qan F.z):=(hr.bm ah).drew;have aJ:=J w2.drew aI;have aj:=η (show _∧_ from ⟨aw.out.cells,ax⟩);clear ax X V J am ac ad aC aF au;go_wp2_with fail;refine wp_region_held_drew (S:=fun w'=>(w'.cell? ⟨w.heap.size,0,none⟩=some (.int .i64 F.p)∧w'.cell? ⟨w.heap.size,1,none⟩=some (.int .i64 F.m)∧w'.cell? ⟨w.heap.size,2,none⟩=some (.slice A F.mod.length c))∧w'.cell? ⟨g1,d,none⟩=some (.int .i64 lc)) (by kernel_rfl) (by (try dsimp only);exact aj.out) (fun hHeld=>?_);refine tk 0 ?_;simp only[pS]
 refine tk 1 ?_;simp only[pS]
 refine tk 2 ?_;simp only[pS]
 refine tk 3 ?_;simp only[pS]
 refine tk 4 ?_;simp only[pS]
 refine rd 5 fun K hK=>?_
 go_simp;go_at_call 142;(with_reducible refine (aJ).out.mono ?_);rintro e w3 ⟨rfl,a5⟩;have U:=(Below.refl w2.heap.size w2).drew.trans a5;go_wp2_with fail;refine hK.out _ _ (by (try dsimp only);exact⟨Qau U av aj.out.1,(U.cell (p:=⟨g1,d,none⟩) aH).trans aj.out.2⟩) (fun hHeld=>?_);clear hK K;try simp only[pS]
 refine tk 6 ?_;simp only[pS]
 refine δ ?_;have aK:=ζ ah U;have a1:=θ av U.size;have a2:=aw.out.below U av;have bf:=ai.below U aH;have aL:=aD.below U aD.lt;clear aj aJ aw ai aD aI af;have aM:=QaC 0 (by omega);rw[show ((0:Nat):Int)=0 from rfl]at aM;obtain⟨gq,az⟩:=ε (w3.heap.size);obtain⟨Y,hY⟩:=ε (w3.alloc (.cells #[] 3));have ay:Below w3.heap.size w3 Y:=by rw[hY];exact β
 have aN:=aL.below ay aL.lt;have a3:=a2.below ay a1;have aO:=ζ aK ay;have ak:=QaN F.z [] A (some ⟨gq,0,none⟩) c 0 Y (fun h=>absurd h (Nat.lt_irrefl _)) (by simp);rw[show ([]:List Int).length=0 from rfl]at ak;replace ak:=η ak;replace hY:=η hY;go_wp2_with fail;rw[←hY.out];simp only[←az];replace az:=η az;clear aM;go_loopw [8] (fun rS wr=>rS=.slice (some ⟨g2,0,none⟩) d d∧wr=Y) (fun _ _=>0)
 case atStart=>exact⟨rfl,rfl⟩
 case round =>
  obtain⟨rfl,rfl⟩:=hrel;obtain⟨q0,q1,q2⟩:=a3.cells;go_wp2_with fail;(with_reducible refine ak.out.mono ?_);rintro e w5 ⟨g5,rfl,-,-,aU⟩;have a4:=(aN.below aU aN.lt).rd;have bg:=hp.out;go_wp2_with fail;go_ret2;refine⟨_,p',some ⟨g2,0,none⟩,d,by rw[hp.out];rfl,a4,ar.out,by rw[hp.out];omega,QmS.zero ap.out,ζ aO aU⟩
theorem Qol (F:FD)(p q:List Int)(d k pl:Nat)(T:(QaD F.z q).length=d+1)(hp:(QaD F.z p).length=pl)(hR:pl=d+k)(hk:1≤k)(A A1 A2:Option Addr)(c c1 c2:Nat)(w:World)(hr:Rd w w.heap.size A (Qan F.z))(cm:Rd w w.heap.size A1 p)(cn:Rd w w.heap.size A2 q)(dr:p.length≤1000)(ds:q.length≤1000) :
  Calls Tryz.prog 188 #[.agg #[.int .i64 F.p,.int .i64 F.m,.slice A F.mod.length c],.slice A1 p.length c1,.slice A2 q.length c2] w (Qfr F p q d w):=by
 have co:=Qa4 F.z q;have cp:=Qa4 F.z p;have an:=fun W h=>QaN F.z q A A2 c c2 W h (by omega)
 have ao:=fun W h=>QaN F.z p A A1 c c1 W h (by omega)
 obtain⟨N,hN⟩:=ε (d+1);obtain⟨q',ah⟩:=ε (QaD F.z q);obtain⟨p',ai⟩:=ε (QaD F.z p);have ba:plI F.z q'=plI F.z q:=by rw[ah,QcB]
 have bb:plI F.z p'=plI F.z p:=by rw[ai,QcB]
 have bc:QaD F.z q'=q':=by rw[ah,QaZ]
 have be:QaD F.z p'=p':=by rw[ai,QaZ]
 unfold Qcj at an ao;rw[←ah,←hN]at T;rw[←ai]at hp;rw[←ah,T,hN]at co;rw[←ah,T]at an;rw[←ai,hp]at ao;rw[←ai,hp]at cp;have cq:cfR F.z q' d≠0:=Qa1 bc (by rw[T,hN]);have ag:=fun W h=>Qe7 F (q'[d]?.getD 0) A c W h
 rw[show eli F.z (q'[d]?.getD 0)=cfR F.z q' d from rfl]at ag;obtain⟨z,hz⟩:=ε (ci (inv (cfR F.z q' d)));rw[←hz]at ag;obtain⟨lc,aK⟩:=ε (q'[d]?.getD 0);rw[←aK]at ag;have du:(N:Int) - 1=(d:Int):=by omega
 have dv:(d:Int)<(N:Int):=by omega
 have dw:(0:Int)≤(d:Int):=by omega
 have dx:d≤1000:=by omega
 have ay:Below w.heap.size w (w.alloc (.cells #[.int .i64 F.p,.int .i64 F.m,.slice A F.mod.length c] 24)):=β;have bH:=η (Bx.new w F.z A F.mod.length c 24);have cs:(0:Int)<(pl:Int) - (d:Int):=by omega
 have ct:(0:Int)≤(pl:Int) - (d:Int):=by omega
 have bf:¬ (pl:Int) - (d:Int)<0:=by omega
 have cu:¬ (pl:Int) - (d:Int)≤0:=by omega
 have bI:(d:Int)<(pl:Int):=by omega
 have cv:pl≤1000:=by omega
 have bJ:=QaC k (by omega);rw[show (k:Int)=(pl:Int) - (d:Int) by omega]at bJ;have dy:N≤1001:=by omega
 have dz:d+k≤1000:=by omega
 replace hR:=η hR;replace T:=η T;replace hp:=η hp;replace ah:=η ah;replace ai:=η ai;replace ba:=η ba;replace bb:=η bb;replace bc:=η bc;replace be:=η be;replace hz:=η hz;replace aK:=η aK;replace hN:=η hN;replace an:=fun W h=>η (an W h)
 replace ao:=fun W h=>η (ao W h)
 replace ag:=fun W h=>η (ag W h)
 unfold Qfr;go_enter Tryz.func188,Tryz.ntmps188;go_wp2_with fail;(with_reducible refine (an _ (cn.bm ay)).out.mono ?_);rintro e w1 ⟨g1,rfl,dL,bz,a0⟩;have az:=ζ ay a0;have bK:w.heap.size<w1.heap.size:=by have:=a0.size;simp only[World.size_alloc]at this;omega
 have bg:=η (bH.out.below a0 (by simp));obtain⟨q0,q1,q2⟩:=bg.out.cells;go_wp2_with fail;(with_reducible refine (ao _ (cm.bm az)).out.mono ?_);rintro e w2 ⟨g2,rfl,dM,bB,aH⟩;clear q0 q1 q2;have aL:=ζ az aH;have bh:=θ bK aH.size;have bi:=η (bg.out.below aH bK);have aM:=bz.below aH bz.lt;have bL:=aM.lt;have bj:=aM.cell (i:=d) (by rw[T.out,hN.out];omega);rw[←aK.out]at bj;have bM:Rd w2.drew w2.drew.heap.size A (Qan F.z):=(hr.bm aL).drew;have bN:=ag w2.drew bM;have ae:=η (show _∧_ from ⟨bi.out.cells,bj⟩);clear bj ao an ag a0 ay az bz bH bg;go_wp2_with fail;refine wp_region_held_drew (S:=fun w'=>(w'.cell? ⟨w.heap.size,0,none⟩=some (.int .i64 F.p)∧w'.cell? ⟨w.heap.size,1,none⟩=some (.int .i64 F.m)∧w'.cell? ⟨w.heap.size,2,none⟩=some (.slice A F.mod.length c))∧w'.cell? ⟨g1,d,none⟩=some (.int .i64 lc)) (by kernel_rfl) (by (try dsimp only);exact ae.out) (fun hHeld=>?_);refine tk 0 ?_;simp only[pS]
 refine tk 1 ?_;simp only[pS]
 refine tk 2 ?_;simp only[pS]
 refine tk 3 ?_;simp only[pS]
 refine tk 4 ?_;simp only[pS]
 refine rd 5 fun K O=>?_
 go_simp;go_at_call 142;(with_reducible refine (bN).out.mono ?_);rintro e w3 ⟨rfl,bf⟩;have ak:=(Below.refl w2.heap.size w2).drew.trans bf;go_wp2_with fail;refine O.out _ _ (by (try dsimp only);exact⟨Qau ak bh ae.out.1,(ak.cell (p:=⟨g1,d,none⟩) bL).trans ae.out.2⟩) (fun hHeld=>?_);clear O K;try simp only[pS]
 refine tk 6 ?_;simp only[pS]
 refine δ ?_;have bO:=ζ aL ak;have bP:=θ bh ak.size;have bQ:=bi.out.below ak bh;have aN:=aM.below ak bL;have aO:=bB.below ak bB.lt;clear ae bN bi aM bB bM aH;obtain⟨I,aQ⟩:=ε (w3.heap.size);obtain⟨Y,hY⟩:=ε (w3.alloc (.cells (Array.replicate k (Value.int .i64 0)) 3));have bR:IB Y I (List.replicate k 0):=by rw[hY,aQ];exact IB.newz w3 k
 have ap:Below w3.heap.size w3 Y:=by rw[hY];exact β
 have bS:=aO.below ap aO.lt;have bT:=aN.below ap aN.lt;have bU:=bQ.below ap bP;have bV:=ζ bO ap;have cw:=θ bP ap.size;have bW:w.heap.size<I:=by omega
 have cx:g1<I:=by have:=aN.lt;omega
 have dA:g2<I:=by have:=aO.lt;omega
 replace hY:=η hY;have hM:=fun y W h=>η (Qdb F.z y z A c W h)
 have aP:=fun a W h V=>Qgb F.z a q' A (some ⟨g1,0,none⟩) c N W h V (by rw[T.out];omega)
 rw[T.out]at aP;have cz:=fun n W hn=>η (QrL n W hn)
 have bk:=fun a n B1 B2 d1 d2 W h V h2 (hn:n≤1000)=>QrF F.z (Qcr F.z a q') (Qk0 n) A B1 B2 c d1 d2 W h V h2 (by have:=QhA F.z a q';rw[T.out]at this;omega) (by rw[Qeb];omega)
 replace aP:=fun a W h V=>η (aP a W h V)
 replace bk:=fun a n B1 B2 d1 d2 W h V h2 hn=>η (bk a n B1 B2 d1 d2 W h V h2 hn)
 go_wp2_with fail;rw[←hY.out];simp only[←aQ];replace aQ:=η aQ;clear bJ cs ct bf cu;go_loopw [8] (fun rS wr=>∃r Ar cr,rS=.slice Ar r.length cr∧Rd wr wr.heap.size Ar r∧(∀b,Ar=some b→b.block≠I)∧Hid (QaD F.z r=r)∧r.length≤d+k∧Hid (QmS F.z p q r)∧Hid (∃lq,lq.length=k∧IB wr I lq)∧IB wr g1 q'∧Bx wr w.heap.size F.z A F.mod.length c∧Below w.heap.size w wr) (fun rS _=>QuU rS)
 case atStart=>exact⟨p',some ⟨g2,0,none⟩,_,by rw[hp.out],bS.rd,(fun b h=>by injection h with h;rw[←h];show g2≠I;omega),be,by rw[hp.out,hR.out];omega,QmS.zero bb.out,⟨_,by simp,bR⟩,bT,bU,bV⟩
 case round =>
  clear bR bS bT bU bV cw hY ap aO aN bQ;obtain⟨w4,rfl⟩:=ε (wr:World);obtain⟨r,Ar,cr,rfl,bv,cc,cd,dK,bw,aE,ce,cf,aw⟩:=hrel;obtain⟨q0,q1,q2⟩:=cf.cells;by_cases dW:d<r.length
  ·obtain⟨n,hn⟩:∃n,r.length=d+n+1:=⟨r.length - d - 1,by omega⟩;obtain⟨J,he⟩:=ε (d+n);have cA:n<k:=by omega
   have n0:(0:Int)≤(n:Int):=by omega
   have n1:(n:Int)<(k:Int):=by omega
   have e0:(0:Int)≤(J:Int):=by omega
   have e1:(J:Int)<(r.length:Int):=by omega
   have e2:(d:Int)≤(J:Int):=by omega
   have cB:(d:Int)<(r.length:Int):=by omega
   have cv:r.length≤2000:=by omega
   have bX:(r.length:Int) - 1=(J:Int):=by omega
   have cC:(J:Int) - (d:Int)=(n:Int):=by omega
   have cD:IntKind.i64.wrap (J:Int)=(J:Int):=IntWalk.i64_in _ (by omega);have cE:IntKind.i64.wrap ((r.length:Int) - 1)=(J:Int):=by rw[bX];exact IntWalk.i64_in _ (by omega)
   obtain⟨br,aZ,rfl,da,bx⟩:=bv.at_ (k:=J) (by omega);have cF:br≠I:=cc _ rfl;have cG:I<w4.heap.size:=by obtain⟨lq,-,h⟩:=aE.out;exact h.lt
   have cH:=ce.lt;have cI:w.heap.size<w4.heap.size:=by omega
   have cJ:=hr.bm aw;have cK:Rd w4.drew w4.drew.heap.size A (Qan F.z):=cJ.drew;have ar:=(hM (r[J]?.getD 0) w4.drew cK).out;rw[show eli F.z (r[J]?.getD 0)=cfR F.z r J from rfl,hz.out,Qam]at ar;obtain⟨y,hy⟩:=ε (r[J]?.getD 0);obtain⟨a,ha⟩:=ε (ci (cfR F.z r J*inv (cfR F.z q' d)));rw[←hy]at bx ar;rw[←ha,←hz.out]at ar;have cL:Hid (eli F.z a*cfR F.z q' d=cfR F.z r (d+n)):=by
    unfold Hid;rw[ha,Qam,Qa6,QbH cq,Qax,he]
   have bY:Hid ((QfK F.z r q' a n).length≤d+n):=Qlw hn (by rw[T.out,hN.out]) cL.out;have cM:Hid (QmS F.z p q (QfK F.z r q' a n)):=bw.out.step ba.out a n;have cN:Hid (QaD F.z (QfK F.z r q' a n)=QfK F.z r q' a n):=Qkr _ _ _;obtain⟨lq,ab,au⟩:=aE.out;replace ab:=η ab;replace au:=η au;have cO:=fun B1 d1 W a1 a2 a3 b1=>η (Qsx F.z r (Qix F.z (Qcr F.z a q') (Qk0 n)) A (some ⟨br,aZ,none⟩) B1 c cr d1 W a1 a2 a3 (by omega) b1)
   have ae:=η (show _∧_ from ⟨cf.cells,bx⟩);replace ar:=η ar;replace hy:=η hy;replace ha:=η ha;replace he:=η he;replace hn:=η hn;clear bx aE bw cd cc;go_wp2_with fail;refine wp_region_held_drew (S:=fun w'=>(w'.cell? ⟨w.heap.size,0,none⟩=some (.int .i64 F.p)∧w'.cell? ⟨w.heap.size,1,none⟩=some (.int .i64 F.m)∧w'.cell? ⟨w.heap.size,2,none⟩=some (.slice A F.mod.length c))∧w'.cell? ⟨br,aZ+J,none⟩=some (.int .i64 y)) (by kernel_rfl) (by (try dsimp only);exact ae.out) (fun hHeld=>?_);refine tk 0 ?_;simp only[pS]
   refine tk 1 ?_;simp only[pS]
   refine tk 2 ?_;simp only[pS]
   refine tk 3 ?_;simp only[pS]
   refine tk 4 ?_;simp only[pS]
   refine tk 5 ?_;simp only[pS]
   refine tk 6 ?_;simp only[pS]
   refine tk 7 ?_;simp only[pS]
   refine rd 8 fun K O=>?_
   go_simp;go_at_call 57;(with_reducible refine (ar).out.mono ?_);rintro e5 w5 ⟨rfl,bI⟩;have U:=(Below.refl w4.heap.size w4).drew.trans bI;have dG:=U.size;have bZ:=η (show _∧_ from ⟨Qau U cI ae.out.1,(U.cell (p:=⟨br,aZ+J,none⟩) da).trans ae.out.2⟩);go_wp2_with fail;refine O.out _ _ bZ.out fun hHeld=>?_;clear O K;try simp only[pS]
   refine tk 9 ?_;simp only[pS]
   refine δ ?_;clear bX cC cE cD;have aS:=au.out.below U cG;have cP:=aS.cell (i:=n) (by rw[ab.out];exact cA);have cQ:=aS.frozen n;have b0:=ζ aw U;have bo:Below I w5 (w5.setCell ⟨I,n,none⟩ (.int .i64 a)):=κ.setCell (p:=⟨I,n,none⟩) ρ _;have aA:Below w.heap.size w (w5.setCell ⟨I,n,none⟩ (.int .i64 a)):=b0.trans (bo.mono (Nat.le_of_lt bW));have aT:IB (w5.setCell ⟨I,n,none⟩ (.int .i64 a)) I (lq.set n a):=aS.set_ n a;have aU:=(ce.below U cH).far (p:=⟨I,n,none⟩) (Nat.ne_of_lt cx) (.int .i64 a);have aV:=η (Qau bo bW bZ.out.1);have bp:Rd (w5.setCell ⟨I,n,none⟩ (.int .i64 a)) w5.heap.size (some ⟨br,aZ,none⟩) r:=(bv.bm U).far (fun b h=>by injection h with h;rw[←h];exact cF) n (.int .i64 a);obtain⟨X,aC⟩:=ε (w5.setCell ⟨I,n,none⟩ (.int .i64 a));have bq:X.heap.size=w5.heap.size:=by rw[aC];simp[World.setCell]
   rw[←aC]at aA aT aU aV bp;rw[←bq]at bp;have aB:w.heap.size<X.heap.size:=by omega
   have bs:=hr.bm aA;have cR:Rd X.drew X.drew.heap.size A (Qan F.z):=bs.drew;have cS:Rd X.drew X.drew.heap.size (some ⟨g1,0,none⟩) q':=aU.rd.drew;have cT:=aP a X.drew cR cS;have cU:=aU.lt;have cV:=aT.lt;have cW:n≤1000:=by omega
   have b2:Hid (∃l,l.length=k∧IB X I l):=⟨_,by rw[List.length_set];exact ab.out,aT⟩;replace aC:=η aC;replace bq:=η bq;clear bo aS aT au ab b0;go_wp2_with fail;rw[←aC.out];clear cP cQ;refine wp_region_held_drew (S:=fun w'=>w'.cell? ⟨w.heap.size,0,none⟩=some (.int .i64 F.p)∧w'.cell? ⟨w.heap.size,1,none⟩=some (.int .i64 F.m)∧w'.cell? ⟨w.heap.size,2,none⟩=some (.slice A F.mod.length c)) (by kernel_rfl) (by (try dsimp only);exact aV.out) (fun hHeld=>?_);refine tk 0 ?_;simp only[pS]
   refine tk 1 ?_;simp only[pS]
   refine tk 2 ?_;simp only[pS]
   refine tk 3 ?_;simp only[pS]
   refine tk 4 ?_;simp only[pS]
   refine tk 5 ?_;simp only[pS]
   refine tk 7 ?_;simp only[pS]
   refine rd 6 fun K O=>?_
   go_simp;go_at_call 222;(with_reducible refine (cT).out.mono ?_);rintro e7 w7 ⟨g7,rfl,dO,cg,de⟩;have bt:=(Below.refl X.heap.size X).drew.trans de;have b3:=bt.size;have b4:=η (Qau bt aB aV.out);have cX:=cz n w7 (by omega);go_wp2_with fail;refine O.out _ _ b4.out fun hHeld=>?_;clear O K;try simp only[pS]
   refine rd 8 fun K O=>?_
   go_simp;go_at_call 192;(with_reducible refine (cX).out.mono ?_);rintro e8 w8 ⟨g8,rfl,dQ,dh,a4⟩;have dH:=a4.size;have b5:=η (Qau a4 (θ aB b3) b4.out);have aD:=bt.trans (a4.mono b3);have cY:=bk a n (some ⟨g7,0,none⟩) (some ⟨g8,0,none⟩) (Qcr F.z a q').length (Qk0 n).length w8 (bs.bm aD) (cg.below a4 cg.lt).rd dh.rd cW;go_wp2_with fail;refine O.out _ _ b5.out fun hHeld=>?_;clear O K;try simp only[pS]
   refine rd 9 fun K O=>?_
   go_simp;go_at_call 221;(with_reducible refine (cY).out.mono ?_);rintro e9 w9 ⟨g9,rfl,dS,dk,bC⟩;have dI:=bC.size;have b6:=η (Qau bC (θ aB aD.size) b5.out);have af:=ζ aD bC;have cZ:=cO (some ⟨g9,0,none⟩) (Qix F.z (Qcr F.z a q') (Qk0 n)).length w9 (bs.bm af) (bp.bm af) dk.rd (by have V:=Qud F.z (Qcr F.z a q') (Qk0 n);have h2:=QhA F.z a q';rw[T.out]at h2;rw[Qeb]at V;omega);go_wp2_with fail;refine O.out _ _ b6.out fun hHeld=>?_;clear O K;try simp only[pS]
   refine rd 10 fun K O=>?_
   go_simp;go_at_call 220;(with_reducible refine (cZ).out.mono ?_);rintro dT a5 ⟨bD,rfl,dU,ch,cj⟩;go_wp2_with fail;refine O.out _ _ (Qau cj (θ aB af.size) b6.out) fun hHeld=>?_;clear O K;try simp only[pS]
   refine tk 11 ?_;simp only[pS]
   refine δ ?_;have aW:=ζ af cj;have c3:=ζ aA aW;have c4:Hid (Bx a5 w.heap.size F.z A F.mod.length c):=Qau aW aB aV.out;have c5:=aU.below aW cU;have c6:Hid (∃l,l.length=k∧IB a5 I l):=by
    obtain⟨l,V,h2⟩:=b2.out;exact⟨l,V,h2.below aW cV⟩
   have c7:Hid (Rd a5 a5.heap.size (some ⟨bD,0,none⟩) (QfK F.z r q' a n)):=ch.rd;have c8:Hid (bD≠I):=by
    have V:=af.size;unfold Hid;omega
   clear ch b2;go_wp2_with fail;go_roundw
   case rel=>exact⟨QfK F.z r q' a n,some ⟨bD,0,none⟩,_,rfl,c7.out,(fun b h=>by injection h with h;rw[←h];exact c8.out),cN,by have:=bY.out;omega,cM,c6,c5,c4.out,c3⟩
   case measure=>show (QfK F.z r q' a n).length<r.length;have:=bY.out;have:=hn.out;omega
  ·obtain⟨lq,ab,au⟩:=aE.out;have aX:=QaN F.z lq A (some ⟨I,0,none⟩) c k w4 au.rd (by omega);rw[ab]at aX;replace aX:=η aX;have cB:¬ (d:Int)<(r.length:Int):=by omega
   have dJ:r.length≤1000:=by omega
   replace ab:=η ab;clear aE;go_wp2_with fail;(with_reducible refine aX.out.mono ?_);rintro e5 w5 ⟨g5,rfl,-,-,U⟩;have c9:=bv.bm U;go_wp2_with fail;go_ret2;exact⟨_,r,Ar,cr,rfl,c9,cd.out,by omega,bw.out,ζ aw U⟩
theorem QlW (F:FD)(p q:List Int)(d:Nat)(O:(QaD F.z q).length=d+1)(A I J:Option Addr)(c c1 c2:Nat)(w:World)(T:Rd w w.heap.size A (Qan F.z))(U:Rd w w.heap.size I p)(V:Rd w w.heap.size J q)(X:p.length≤1000)(Y:q.length≤1000) :
  Calls Tryz.prog 188 #[.agg #[.int .i64 F.p,.int .i64 F.m,.slice A F.mod.length c],.slice I p.length c1,.slice J q.length c2] w (Qfr F p q d w):=by
 rcases Nat.lt_trichotomy (QaD F.z p).length d with h |h |h
 ·exact Qoj F p q d _ O rfl h A I J c c1 c2 w T U V X Y
 ·exact Qok F p q d O h A I J c c1 c2 w T U V X Y
 ·exact Qol F p q d ((QaD F.z p).length - d) _ O rfl (by omega) (by omega) A I J c c1 c2 w T U V X Y
end Go.Proofs
