/- The reference's polynomials: Mul. -/
import Derived.IntWalk
import Derived.Test.YtogfekjbpcfgmaaGreatZtkNorW
set_option maxRecDepth 100000
set_option maxHeartbeats 16000000
set_option linter.unusedVariables false
namespace Go.Proofs
open Go.RowKit Cw
section
def Qix (D:Desc)(p q:List Int):List Int:=Qep (fun t=>ci (conv (cfR D p) (cfR D q) t)) (p.length+q.length)
theorem QfJ (D:Desc)(p q:List Int):cfR D (Qix D p q)=conv (cfR D p) (cfR D q) :=
 QdC _ _ fun _ h=>Qb8 (fun _ h=>Qao D h) (fun _ h=>Qao D h) (by omega)
theorem QpE {D:Desc} {p q:List Int} {N:Nat} {f:Nat→R D} (O:N≤p.length+q.length)(J:∀t,f t=conv (cfR D p) (cfR D q) t)(h0:∀t,N≤t→f t=0):QaD D (lst N fun t=>ci (f t))=Qix D p q:=by
 unfold QaD Qix;rw[Qab,QeL (g:=fun t=>ci (conv (cfR D p) (cfR D q) t)) (fun i I=>by
  show ci (eli D ((lst N fun t=>ci (f t))[i]?.getD 0))=_
  rw[Qas _ I,Qam,J])]
 exact (Qey O fun i I _=>by rw[←J,h0 i I,QaF]).symm
theorem Qkp {B b J T O U:Nat} {W w1:World} {X v1 v2 Y v4:Value} (V:Below B W w1)(h2:b<B)(h3:J<B)(h5:O<B)(I:W.cell? ⟨b,0,none⟩=some X∧W.cell? ⟨b,1,none⟩=some v1∧W.cell? ⟨b,2,none⟩=some v2∧W.cell? ⟨J,T,none⟩=some Y∧W.cell? ⟨O,U,none⟩=some v4) :
  w1.cell? ⟨b,0,none⟩=some X∧w1.cell? ⟨b,1,none⟩=some v1∧w1.cell? ⟨b,2,none⟩=some v2∧w1.cell? ⟨J,T,none⟩=some Y∧w1.cell? ⟨O,U,none⟩=some v4 :=
 have k:=Qau V h2 ⟨I.1,I.2.1,I.2.2.1⟩
 ⟨k.1,k.2.1,k.2.2,(V.cell (p:=⟨J,T,none⟩) h3).trans I.2.2.2.1,(V.cell (p:=⟨O,U,none⟩) h5).trans I.2.2.2.2⟩
theorem QrF (D:Desc)(p q:List Int)(A A1 A2:Option Addr)(c c1 c2:Nat)(w:World)(hr:Rd w w.heap.size A (Qan D))(bD:Rd w w.heap.size A1 p)(bE:Rd w w.heap.size A2 q)(bY:p.length≤20000)(bZ:q.length≤20000) :
  Calls Tryz.prog 221 #[.agg #[.int .i64 D.p,.int .i64 D.m,.slice A D.mod.length c],.slice A1 p.length c1,.slice A2 q.length c2] w (Qcj w.heap.size (Qix D p q) w):=by
 have ap:=fun W a=>η (QaN D p A A1 c c1 W a (by omega))
 have aq:=fun W a=>η (QaN D q A A2 c c2 W a (by omega))
 have hM:=fun y z W hr=>η (Qdb D y z A c W hr)
 have hA:=fun y z W=>η (Qd7 D y z A D.mod.length c W)
 have bh:=η (Bx.new w D A D.mod.length c 24);have ar:Below w.heap.size w (w.alloc (.cells #[.int .i64 D.p,.int .i64 D.m,.slice A D.mod.length c] 24)):=β;have bi:=Qa4 D p;have bj:=Qa4 D q;obtain⟨P,hP⟩:=ε (cfR D p);obtain⟨Q,hQ⟩:=ε (cfR D q);have au:∀i,eli D ((QaD D p)[i]?.getD 0)=P i:=fun i=>by rw[hP,←Qbe];rfl
 have av:∀i,eli D ((QaD D q)[i]?.getD 0)=Q i:=fun i=>by rw[hQ,←Qbe];rfl
 have ac:∀t,(QaD D p).length≤t→P t=0:=fun t h=>by rw[←au,List.getElem?_eq_none h];exact QbC
 have ah:∀t,(QaD D q).length≤t→Q t=0:=fun t h=>by rw[←av,List.getElem?_eq_none h];exact QbC
 have aE:QaD D (lst ((QaD D p).length+(QaD D q).length) fun t=>ci (Qb7 P Q (QaD D p).length 0 t))=Qix D p q :=
  QpE (by omega) (fun t=>by rw[QeM _ _ ac,hP,hQ]) (fun t h=>by rw[QeM _ _ ac];exact Qb8 ac ah (by omega))
 obtain⟨p',aW⟩:=ε (QaD D p);obtain⟨q',aX⟩:=ε (QaD D q);rw[←aW]at bi ap au ac aE;rw[←aX]at bj aq av ah aE;obtain⟨I,ai⟩:=ε (p'.length);obtain⟨J,aj⟩:=ε (q'.length);have bH:=QaC (I+J) (by omega);rw[Int.natCast_add]at bH;have hF:=fun g W a=>η (QaN D (lst (I+J) fun t=>ci (Qb7 P Q I 0 t)) A g c (I+J) W a (by rw[Qab];omega))
 rw[Qab,ai,aj,aE,←ai,←aj]at hF;unfold Qcj at ap aq;rw[←ai]at ap ac;rw[←aj]at aq ah;have b0:I+J≤40000:=by omega
 replace hP:=η hP;replace hQ:=η hQ;replace au:=η au;replace av:=η av;replace ac:=η ac;replace ah:=η ah;replace aW:=η aW;replace aX:=η aX;replace ai:=η ai;replace aj:=η aj;clear aE bi bj;go_enter Tryz.func221,Tryz.ntmps221;go_wp2_with fail;(with_reducible refine (ap _ (bD.bm ar)).out.mono ?_);rintro e w1 ⟨g1,rfl,bR,be,aR⟩;have aw:=ζ ar aR;have aY:w.heap.size<w1.heap.size:=by have:=aR.size;simp only[World.size_alloc]at this;omega
 have aZ:=η (bh.out.below aR (by simp));obtain⟨q0,q1,q2⟩:=aZ.out.cells;go_wp2_with fail;(with_reducible refine (aq _ (bE.bm aw)).out.mono ?_);rintro e w2 ⟨g2,rfl,bS,ab,aD⟩;have a0:=ζ aw aD;have bl:w.heap.size<w2.heap.size:=θ aY aD.size;have bm:=aZ.out.below aD aY;have ad:=be.lt;have a1:=be.below aD ad;have bo:=a1.lt;have bp:=ab.lt;obtain⟨g,hg⟩:=ε (w2.heap.size);obtain⟨Y,hY⟩:=ε (w2.alloc (.cells (Array.replicate (I+J) (Value.int .i64 0)) 3));have T:IB Y g (lst (I+J) fun t=>ci (Qb7 P Q 0 0 t)):=by
  rw[hY,hg,Qay (g:=fun _=>0) (fun i _=>by rw[Qio,QaF]),←Qd2];exact IB.newz w2 _
 have ax:Below w2.heap.size w2 Y:=by rw[hY];exact β
 have bI:g<Y.heap.size:=by rw[hY,hg];simp
 have bq:=bm.below ax bl;have br:=ζ a0 ax;have bs:=a1.below ax bo;have bt:=ab.below ax bp;have a2:w.heap.size<g:=by omega
 have a3:g1<g:=by omega
 have a4:g2<g:=by omega
 replace hY:=η hY;replace hg:=η hg;replace T:=η T;clear be ab a1 ax bm aZ bh aR aD ap aq q0 q1 q2 ad bo bp bR bS aw a0 ar aY bl;go_wp2_with fail;rw[←hY.out];simp only[←hg.out];go_loopw [8,9] (fun i _ wr=>∃k:Nat,k≤I∧i=.int .i64 k∧Hid (IB wr g (lst (I+J) fun t=>ci (Qb7 P Q k 0 t)))∧Bx wr w.heap.size D A D.mod.length c∧IB wr g1 p'∧IB wr g2 q'∧Below w.heap.size w wr) (fun i _ _=>I - (intOf i).toNat)
 case atStart=>exact⟨0,by omega,rfl,T,bq,bs,bt,br⟩
 case round =>
  clear T bq bs bt br bI hY;obtain⟨wo,rfl⟩:=ε (wr:World);obtain⟨i,hi,rfl,T,X,af,ag,U⟩:=hrel;by_cases bW:i<I
  ·have b1:(0:Int)≤(i:Int):=by omega
   have b2:(i:Int)<(I:Int):=by omega
   go_wp2_with fail;go_loopw [9] (fun j' wr=>∃j:Nat,j≤J∧j'=.int .i64 j∧Hid (IB wr g (lst (I+J) fun t=>ci (Qb7 P Q i j t)))∧Bx wr w.heap.size D A D.mod.length c∧IB wr g1 p'∧IB wr g2 q'∧Below w.heap.size w wr) (fun j' _=>J - (intOf j').toNat)
   case atStart=>exact⟨0,by omega,rfl,T,X,af,ag,U⟩
   case round =>
    clear T X af ag U;obtain⟨wi,rfl⟩:=ε (wr:World);obtain⟨j,hj,rfl,T,X,af,ag,U⟩:=hrel;by_cases bX:j<J
    ·have b3:(0:Int)≤(j:Int):=by omega
     have b4:(j:Int)<(J:Int):=by omega
     have a5:=af.cell (i:=i) (by rw[←ai.out];exact bW);have a6:=ag.cell (i:=j) (by rw[←aj.out];exact bX);have az:=T.out.cell (i:=i+j) (by rw[Qab];omega);rw[Qas _ (by omega:i+j<I+J)]at az;have aH:=T.out.lt;have ad:=af.lt;have aI:=ag.lt;have a7:w.heap.size<wi.heap.size:=by omega
     obtain⟨y1,aK⟩:=ε (p'[i]?.getD 0);obtain⟨y2,aL⟩:=ε (q'[j]?.getD 0);obtain⟨y3,aM⟩:=ε (ci (Qb7 P Q i j (i+j)));obtain⟨y4,aN⟩:=ε (ci (Qb7 P Q i (j+1) (i+j)));rw[←aK]at a5;rw[←aL]at a6;rw[←aM]at az;have bu:=fun W a=>hM y1 y2 W a
     have aJ:=fun W=>(hA y3 (ci (eli D y1*eli D y2)) W).out
     have bv:ci (eli D y3+eli D (ci (eli D y1*eli D y2)))=y4:=by
      rw[Qam,aM,Qam,aK,aL,au.out,av.out,aN,Qip]
     rw[bv]at aJ;replace aJ:=fun W=>η (aJ W)
     have bw:(lst (I+J) fun t=>ci (Qb7 P Q i j t)).set (i+j) y4=lst (I+J) fun t=>ci (Qb7 P Q i (j+1) t):=by
      rw[Qd1];refine Qay fun t _=>?_
      by_cases e:t=i+j
      ·rw[if_pos e,e,aN]
      ·rw[if_neg e,Qhd _ _ e]
     have a8:=fun W (h:IB W g _)=>bw ▸ h.set_ (i+j) y4
     replace a8:=η a8;have b5:IntKind.i64.wrap ((i:Int)+(j:Int))=(i:Int)+(j:Int):=IntWalk.i64_in _ (by omega);have b6:(0:Int)≤(i:Int)+(j:Int):=by omega
     have b7:(i:Int)+(j:Int)<(I:Int)+(J:Int):=by omega
     have bJ:((i:Int)+(j:Int)).toNat=i+j:=by omega
     have aA:=η (show _∧_∧_∧_∧_ from ⟨X.cells.1,X.cells.2.1,X.cells.2.2,a5,a6⟩);have bx:=bu wi.drew (hr.bm U).drew;replace aK:=η aK;replace aL:=η aL;replace aM:=η aM;replace aN:=η aN;have bK:Hid (i+j<(lst (I+J) fun t=>ci (Qb7 P Q i j t)).length):=by unfold Hid;rw[Qab];omega
     clear a5 a6 X bv bw bu;go_wp2_with fail;refine wp_region_held_drew (S:=fun w'=>w'.cell? ⟨w.heap.size,0,none⟩=some (.int .i64 D.p)∧w'.cell? ⟨w.heap.size,1,none⟩=some (.int .i64 D.m)∧w'.cell? ⟨w.heap.size,2,none⟩=some (.slice A D.mod.length c)∧w'.cell? ⟨g1,i,none⟩=some (.int .i64 y1)∧w'.cell? ⟨g2,j,none⟩=some (.int .i64 y2)) (by kernel_rfl) (by (try dsimp only);exact aA.out) (fun hHeld=>?_);refine tk 0 ?_;simp only[pS]
     refine tk 1 ?_;simp only[pS]
     refine tk 2 ?_;simp only[pS]
     refine tk 3 ?_;simp only[pS]
     refine tk 4 ?_;simp only[pS]
     refine tk 5 ?_;simp only[pS]
     refine tk 6 ?_;simp only[pS]
     refine tk 7 ?_;simp only[pS]
     refine tk 8 ?_;simp only[pS]
     refine tk 9 ?_;simp only[pS]
     refine tk 11 ?_;simp only[pS]
     refine tk 12 ?_;simp only[pS]
     refine tk 13 ?_;simp only[pS]
     refine tk 14 ?_;simp only[pS]
     refine tk 15 ?_;simp only[pS]
     refine tk 16 ?_;simp only[pS]
     refine tk 17 ?_;simp only[pS]
     refine tk 18 ?_;simp only[pS]
     refine tk 19 ?_;simp only[pS]
     refine wpAnyH_ready (rs:=[10,20]) (by kernel_rfl) (by simp) ?_;refine AllReadyH.cons (o:=⟨_,_,_,_,_,_⟩) rfl (fun K O=>?_) ?_
     all_goals first
      |(go_simp
        refine O.out _ _ (by (try dsimp only);first |exact ak.out |exact aA.out) (fun hHeld=>?_);clear O K;try simp only[pS]
        refine rd 20 fun K O=>?_
        go_simp;go_at_call 57;(with_reducible refine (bx).out.mono ?_);rintro e w4 ⟨rfl,V⟩;have ak:=η (Qkp V a7 ad aI aA.out);have bz:=(V.cell (p:=⟨g,i+j,none⟩) aH).trans az;go_wp2_with fail;refine O.out _ _ (by (try dsimp only);exact ak.out) (fun hHeld=>?_))
      |(refine AllReadyH.cons (o:=⟨_,_,_,_,_,_⟩) rfl (fun K O=>?_) AllReadyH.nil
        go_simp;go_at_call 57;(with_reducible refine (bx).out.mono ?_);rintro e w4 ⟨rfl,V⟩;have ak:=η (Qkp V a7 ad aI aA.out);have bz:=(V.cell (p:=⟨g,i+j,none⟩) aH).trans az;go_wp2_with fail;refine O.out _ _ ak.out fun hHeld=>?_;clear O K;try simp only[pS]
        refine rd 10 fun K O=>?_
        go_simp;refine O.out _ _ (by (try dsimp only);first |exact ak.out |exact aA.out) (fun hHeld=>?_))
     all_goals
      clear O K;try simp only[pS]
      have aO:wi.heap.size≤w4.heap.size:=V.size;refine rd 21 fun K O=>?_
      go_simp;go_at_call 118;(with_reducible refine (aJ w4).out.mono ?_);rintro e w5 ⟨rfl,bf⟩;have a9:=η (Qkp bf (θ a7 aO) (θ ad aO) (θ aI aO) ak.out);go_wp2_with fail;refine O.out _ _ a9.out fun hHeld=>?_;clear O K;try simp only[pS]
      have ba:=(T.out.drew.below V aH).below bf (θ aH aO);have bL:=ba.cell bK.out;have bM:=ba.frozen (i+j);refine tk 22 ?_;simp only[pS]
      refine rd 23 fun K O=>?_
      go_simp;refine O.out _ _ (Qkp (B:=g) (κ.setCell (p:=⟨g,i+j,none⟩) ρ _) a2 a3 a4 a9.out) fun hHeld=>?_;clear O K;try simp only[pS]
      refine δ ?_;have kk:=Qkp (B:=g) (κ.setCell (p:=⟨g,i+j,none⟩) ρ (.int .i64 y4)) a2 a3 a4 a9.out;have bb:=ζ V bf;have bN:=η ((af.drew.below bb ad).far (p:=⟨g,i+j,none⟩) (Nat.ne_of_lt a3) (.int .i64 y4));have bO:=η ((ag.drew.below bb aI).far (p:=⟨g,i+j,none⟩) (Nat.ne_of_lt a4) (.int .i64 y4));have bP:=η ((U.drew.trans (bb.mono U.size)).setCell (p:=⟨g,i+j,none⟩) (Nat.le_of_lt a2) (.int .i64 y4));have bQ:=η (a8.out _ ba);replace kk:=η kk;clear bL bM az bz bJ;go_wp2_with fail;go_roundw
      case rel=>exact⟨j+1,by omega,by go_num,bQ,⟨kk.out.1,kk.out.2.1,kk.out.2.2.1⟩,bN.out,bO.out,bP.out⟩
      case measure=>simp[intOf];omega
    ·obtain rfl:j=J:=by omega
     have ab:=T.out;rw[Qay (fun t _=>by rw[Qj5 P Q ah.out t])]at ab;replace ab:=η ab;go_wp2_with fail;go_roundw
     case rel=>exact⟨i+1,by omega,by go_num,ab,X,af,ag,U⟩
     case measure=>simp[intOf];omega
  ·obtain rfl:i=I:=by omega
   obtain⟨q0,q1,q2⟩:=X.cells;go_wp2_with fail;(with_reducible refine (hF (some ⟨g,0,none⟩) wo T.out.rd).out.mono ?_);rintro e w4 ⟨g4,rfl,bU,bV,V⟩;go_wp2_with fail;go_ret;exact⟨g4,rfl,τ U.size bU,bV,ζ U V⟩
end
section
theorem Qs7 (F:FD){n:Nat} (h:n<F.p):eli F.z (n:Int)=nsm n (1:R F.z):=by
 have O:n<F.q:=by
  have I:=Nat.pow_le_pow_right (n:=F.p) (by have:=F.p2;omega) F.m1;rw[Nat.pow_one]at I;exact θ h I
 rw[Qcy O];refine R.ext' fun i J=>?_
 rw[Qnc J,Qtx,Qk9 J];by_cases e:i=0
 ·rw[if_pos e,e,Nat.pow_zero,Nat.div_one,QjX]
 ·rw[if_neg e,Qcv,Qac,Nat.div_eq_of_lt (θ h (by
   have I:=Nat.pow_le_pow_right (n:=F.p) (by have:=F.p2;omega) (by omega:1≤i)
   rwa [Nat.pow_one]at I)),Qes]
theorem QwW (S F:FD)(hp:S.p=F.p)(u:R S.z)(i:Nat):eli F.z (di u i:Nat)=kz F (u.v i):=by
 rw[Qs7 F (by rw[←hp];exact Qd3 u i)];rfl
theorem QcA {D:Desc} (u:R D):(dl u).length=D.m:=Qab _ _
theorem QvY (S F:FD)(hp:S.p=F.p)(u:R S.z){i:Nat} (I:i<S.m):eli F.z ((dl u)[i]?.getD 0)=kz F (u.v i):=by
 unfold dl;rw[Qas _ I,QwW S F hp]
theorem QpF (S F:FD)(hp:S.p=F.p)(u:R S.z)(r:R F.z):QaW F.z (dl u) r=phi S F r u:=by
 unfold QaW phi;rw[QcA];exact Qaa fun i I=>by rw[QvY S F hp u I]
theorem QvZ (S F:FD)(hp:S.p=F.p)(j:Nat):eli F.z ((S.mod.getD j 0:Nat):Int)=kz F (S.c j):=by
 have h:=S.hmod j;rw[Qs7 F (by rw[←hp];exact h)];unfold kz Desc.c;rw[Qdq,Nat.mod_eq_of_lt h]
def Qjj (S:FD):List Int:=Qan S.z ++ [1]
theorem Qhy (S:FD)(I:S.m≠1):(Qjj S).length=S.m+1:=by
 unfold Qjj;rw[List.length_append,Qaf,S.hlen,if_neg I];rfl
theorem QrG (S:FD)(I:S.m≠1){i:Nat} (J:i<S.m):(Qjj S)[i]?.getD 0=((S.mod.getD i 0:Nat):Int):=by
 have O:S.mod.length=S.m:=by rw[S.hlen,if_neg I]
 unfold Qjj;rw[List.getElem?_append_left (by rw[Qaf];omega),QeO _ (by omega)]
theorem Qmx (S:FD)(I:S.m≠1):(Qjj S)[S.m]?.getD 0=1:=by
 have J:S.mod.length=S.m:=by rw[S.hlen,if_neg I]
 unfold Qjj;rw[List.getElem?_append_right (by rw[Qaf];omega),Qaf,J,Nat.sub_self];rfl
theorem Qjk (S F:FD)(hp:S.p=F.p)(I:S.m≠1)(r:R F.z):QaW F.z (Qjj S) r=muV S F r:=by
 unfold QaW muV;rw[Qhy S I,Qaj,Qmx S I,QcQ,Qav,QdV]
 congr 1
 exact Qaa fun i J=>by rw[QrG S I J,QvZ S F hp]
theorem Qkq {K:Type} [CRing K] {n m:Nat} (h:n≤m)(f:Nat→K)(hz:∀i,n≤i→i<m→f i=0):Qat m f=Qat n f:=by
 obtain⟨d,rfl⟩:∃d,m=n+d:=⟨m - n,by omega⟩;rw[Qco,Qag (n:=d) fun i I=>hz (n+i) (by omega) (by omega),Qad]
theorem Qhz (D:FD)(p:List Int)(u:R D.z):QaW D.z (QaD D.z p) u=QaW D.z p u:=by
 show Qat _ (fun i=>cfR D.z (QaD D.z p) i*pw u i)=Qat _ (fun i=>cfR D.z p i*pw u i)
 rw[Qbe,Qkq (Qa4 D.z p) _ fun i J _=>by
  have I:cfR D.z (QaD D.z p) i=0:=Qao D.z J;rw[Qbe]at I;rw[I,Qah]]
theorem QrH (S F:FD)(J:S.m≠1):QaD F.z (Qjj S)≠[]:=by
 intro h;have I:cfR F.z (QaD F.z (Qjj S)) S.m=1:=by
  rw[Qbe]
  show eli F.z ((Qjj S)[S.m]?.getD 0)=1
  rw[Qmx S J,QcQ]
 rw[h]at I;have O:cfR F.z [] S.m=0:=Qao F.z (Nat.zero_le _);rw[O]at I;exact QbD I.symm
def Qjl (S F:FD)(n:Nat):Prop:=n<F.q∧muV S F (rel F.z n)=0∧∀j,j<n→muV S F (rel F.z j)≠0
theorem Qlv {S F:FD} (hp:S.p=F.p)(O:S.m∣F.m):∃n,Qjl S F n:=by
 have T:nsm S.p (1:R F.z)=0:=by rw[hp];exact Qfx
 obtain⟨x,U⟩:=Qps hp T O;have h:∀n,n≤QaA x→(∃n,Qjl S F n)∨∀j,j<n→muV S F (rel F.z j)≠0:=fun n=>by
  induction n with
  |zero=>exact fun _=>.inr fun j J=>absurd J (by omega)
  |succ n ih =>
   intro X;rcases ih (by omega) with I |I
   ·exact .inl I
   ·by_cases e:muV S F (rel F.z n)=0
    ·exact .inl ⟨n,by have:=QaM x;omega,e,I⟩
    ·refine .inr fun j J=>?_
     rcases (by omega:j<n∨j=n) with V |rfl
     ·exact I j V
     ·exact e
 rcases h (QaA x) ρ with I |I
 ·exact I
 ·exact⟨QaA x,QaM x,by rw[QaT];exact U,I⟩
theorem Qjl.uniq {S F:FD} {n m:Nat} (I:Qjl S F n)(J:Qjl S F m):n=m:=by
 rcases Nat.lt_trichotomy n m with h |h |h
 ·exact absurd I.2.1 (J.2.2 n h)
 ·exact h
 ·exact absurd J.2.1 (I.2.2 m h)
theorem QrI {S F:FD} (I:S.m=1):Qjl S F 0:=by
 refine⟨by have:=F.z.q2;omega,?_,fun j O=>absurd O (by omega)⟩;have h0:S.c 0=0:=by
  unfold Desc.c;rw[show S.mod.getD 0 0=0 from by
   have J:S.mod=[]:=List.eq_nil_of_length_eq_zero (by rw[S.hlen,if_pos I]);rw[J];rfl]
  exact Qes
 rw[QiV];unfold muV;rw[I,Qii,Qaj,QaG,h0,Qf8];simp only[Qah,Qad]
noncomputable def Qov (S F:FD)(n:Nat):List Int:=lst S.q fun x=>ci (phi S F (rel F.z n) (rel S.z x))
theorem QbT (S F:FD)(n:Nat):(Qov S F n).length=S.q:=Qab _ _
theorem QeR (S F:FD)(n:Nat){x:Nat} (h:x<S.q):(Qov S F n)[x]?.getD 0=ci (phi S F (rel F.z n) (rel S.z x)):=Qas _ h
noncomputable def Qdf (D:FD)(p:List Int)(I:List Int):List Int:=I.filter fun x=>decide (QaW D.z p (eli D.z x)=0)
theorem QpG (D:FD)(p I:List Int){x:Int} (h:QaW D.z p (eli D.z x)=0):Qdf D p (I ++ [x])=Qdf D p I ++ [x]:=by simp[Qdf,h]
theorem QnF (D:FD)(p I:List Int){x:Int} (h:¬ QaW D.z p (eli D.z x)=0):Qdf D p (I ++ [x])=Qdf D p I:=by simp[Qdf,h]
theorem QnG (D:FD)(p:List Int){n:Nat} (T:n≤D.q)(h:∀j,j<n→QaW D.z p (rel D.z j)≠0):Qdf D p (lst n fun i=>(i:Int))=[]:=by
 refine List.filter_eq_nil_iff.2 fun x O=>?_
 obtain⟨k,J,rfl⟩:=List.mem_map.1 O;have I:=List.mem_range.1 J;rw[Qcy (by omega),decide_eq_true_eq];exact h k I
theorem QnH {S F:FD} (hp:S.p=F.p)(O:S.m≠1){n:Nat} (h:Qjl S F n):∃t,Qdf F (QaD F.z (Qjj S)) (lst F.q fun i=>(i:Int))=(n:Int) :: t:=by
 have I:∀r,QaW F.z (QaD F.z (Qjj S)) r=muV S F r:=fun r=>by rw[Qhz,Qjk S F hp O]
 obtain⟨d,U⟩:∃d,F.q=n+1+d:=⟨F.q - n - 1,by have:=h.1;omega⟩;have T:lst F.q (fun i=>(i:Int))=(lst n fun i=>(i:Int)) ++ ((n:Int) :: (List.range d).map fun i:Nat=>((n+1+i:Nat):Int)):=by
  rw[U];unfold lst;rw[List.range_add,List.map_append,List.map_map,List.range_succ,List.map_append,List.append_assoc];rfl
 have J:Qdf F (QaD F.z (Qjj S)) (lst n fun i=>(i:Int))=[]:=QnG F _ (by have:=h.1;omega) fun j V=>by rw[I];exact h.2.2 j V
 rw[T];unfold Qdf at J ⊢;rw[List.filter_append,J,List.nil_append,List.filter_cons_of_pos (by
  rw[Qcy h.1,decide_eq_true_eq,I];exact h.2.1)]
 exact⟨_,rfl⟩
end
section
open CField (inv)
def Qcr (D:Desc)(a:Int)(p:List Int):List Int:=Qep (fun i=>ci (eli D a*cfR D p i)) p.length
def QnI (D:Desc)(p q:List Int):List Int:=Qep (fun i=>ci (cfR D p i+cfR D q i)) (max p.length q.length)
theorem Qf9 (D:Desc)(a:Int)(p:List Int):cfR D (Qcr D a p)=fun i=>eli D a*cfR D p i:=QdC _ _ fun i h=>by rw[Qao D h,Qac]
theorem QrJ (D:Desc)(p q:List Int):cfR D (QnI D p q)=fun i=>cfR D p i+cfR D q i:=QdC _ _ fun i h=>by rw[Qao D (by omega),Qao D (by omega),Qad]
theorem Qdv {D:Desc} (f:Nat→R D)(n:Nat)(h:∀i,n≤i→f i=0):QaD D (Qep (fun i=>ci (f i)) n)=Qep (fun i=>ci (f i)) n:=by
 have e:=QdC f n h;unfold QaD;rw[QeL (g:=fun i=>ci (f i)) fun i _=>by unfold cfI;rw[e]];exact (Qey (by rw[QaH];exact QbY _ _) fun i I J=>by
  rw[QaH]at I;exact Qhc (fun i=>ci (f i)) n I J).symm
theorem Qea (D:Desc)(f:Nat→R D)(n:Nat):QaD D (lst n fun i=>ci (f i))=Qep (fun i=>ci (f i)) n:=by
 unfold QaD;rw[Qab];exact QeL fun i I=>by unfold cfI cfR;rw[Qas _ I,Qam]
theorem Qkr (D:Desc)(p q:List Int):QaD D (QnI D p q)=QnI D p q:=Qdv _ _ fun i h=>by rw[Qao D (by omega),Qao D (by omega),Qad]
theorem QaZ (D:Desc)(p:List Int):QaD D (QaD D p)=QaD D p:=Qdv (cfR D p) _ fun i h=>Qao D h
theorem QhA (D:Desc)(a:Int)(p:List Int):(Qcr D a p).length≤p.length:=by unfold Qcr;rw[QaH];exact QbY _ _
theorem Qud (D:Desc)(p q:List Int):(Qix D p q).length≤p.length+q.length:=by unfold Qix;rw[QaH];exact QbY _ _
theorem QpH (D:Desc)(p:List Int)(x:R D){N:Nat} (h:p.length≤N):Qat N (fun i=>cfR D p i*pw x i)=QaW D p x:=by
 rw[Qkq h _ fun i I _=>by rw[Qao D I,Qah]];rfl
def Qk0 (n:Nat):List Int:=lst (n+1) fun i=>if i=n then 1 else 0
theorem Qeb (n:Nat):(Qk0 n).length=n+1:=Qab _ _
theorem QrK (D:Desc)(n:Nat):cfR D (Qk0 n)=fun i=>if i=n then 1 else 0:=funext fun i=>by
 by_cases h:i<n+1
 ·unfold cfR Qk0;rw[Qas _ h];by_cases e:i=n
  ·rw[if_pos e,if_pos e,QcQ]
  ·rw[if_neg e,if_neg e,QbC]
 ·rw[Qao D (by rw[Qeb];omega),if_neg (by omega)]
theorem Qfd (D:Desc)(n i:Nat):cfR D (Qk0 n) i=if i=n then 1 else 0:=by rw[QrK]
theorem QpI (D:Desc)(f:Nat→R D)(n t:Nat):conv f (cfR D (Qk0 n)) t=if n≤t then f (t - n) else 0:=by
 unfold conv
 by_cases h:n≤t
 ·rw[if_pos h,Qak (k:=t - n) (by omega) fun i I J=>by rw[Qfd,if_neg (by omega),Qac],Qfd,if_pos (by omega),Qax]
 ·rw[if_neg h];exact Qag fun i I=>by rw[Qfd,if_neg (by omega),Qac]
def QfK (D:Desc)(r q:List Int)(a:Int)(n:Nat):List Int:=QnI D r (Qcr D (ci (-(1:R D))) (Qix D (Qcr D a q) (Qk0 n)))
theorem Qks (D:Desc)(r q:List Int)(a:Int)(n t:Nat):cfR D (QfK D r q a n) t=cfR D r t - if n≤t then eli D a*cfR D q (t - n) else 0:=by
 unfold QfK;rw[QrJ];dsimp only;rw[Qf9];dsimp only;rw[QfJ,QpI,Qf9,Qam,Qbb,Qav,QbV]
theorem Qdg {D:Desc} {p:List Int} (I:QaD D p=p){n:Nat} (h:∀t,n≤t→cfR D p t=0):p.length≤n:=by
 by_cases O:n≤p.length
 ·rw[←I];unfold QaD;rw[Qey O fun i J _=>by unfold cfI;rw[h i J,QaF],QaH];exact QbY _ _
 ·omega
theorem Qa1 {D:Desc} {p:List Int} (I:QaD D p=p){n:Nat} (J:p.length=n+1):cfR D p n≠0:=fun h=>by
 have:=Qdg I (n:=n) fun t O=>by
  by_cases e:t=n
  ·rw[e];exact h
  ·exact Qao D (by omega)
 omega
theorem Qlw {D:Desc} {r q:List Int} {d n:Nat} {a:Int} (J:r.length=d+n+1)(O:q.length=d+1)(I:eli D a*cfR D q d=cfR D r (d+n)):(QfK D r q a n).length≤d+n:=by
 refine Qdg (Qkr _ _ _) fun t T=>?_
 rw[show QnI D r (Qcr D (ci (-(1:R D))) (Qix D (Qcr D a q) (Qk0 n)))=QfK D r q a n from rfl,Qks,if_pos (by omega)];by_cases e:t=d+n
 ·rw[e,show d+n - n=d by omega,I,QaV]
 ·rw[Qao D (by omega),Qao D (by omega),Qac,QaV]
end
section
open CField (inv)
theorem Qga (D:Desc)(p:List Int)(k:Nat)(A V:Option Addr)(c c1:Nat)(w:World)(ad:Rd w w.heap.size V p)(hl:p.length≤70000) :
  Calls Tryz.prog 235 #[.agg #[.int .i64 D.p,.int .i64 D.m,.slice A D.mod.length c],.slice V p.length c1,.int .i64 k] w fun e w'=>e=.returned (.int .i64 (ci (cfR D p k)))∧Below w.heap.size w w':=by
 have I:Below w.heap.size w (w.alloc (.cells #[.int .i64 D.p,.int .i64 D.m,.slice A D.mod.length c] 24)):=β;have X:=η (Bx.new w D A D.mod.length c 24).cells;have aj:(0:Int)≤(k:Int):=by omega
 by_cases hk:k<p.length
 ·obtain⟨b,o,rfl,hb,hc⟩:=ad.at_ hk;have ae:(k:Int)<(p.length:Int):=by omega
  have O:=fun W=>Qka D (p[k]?.getD 0) A D.mod.length c W
  rw[show eli D (p[k]?.getD 0)=cfR D p k from rfl]at O;replace O:=fun W=>η (O W)
  have T:=η (show _∧_ from ⟨X.out,(I.cell (p:=⟨b,o+k,none⟩) hb).trans hc⟩);generalize p[k]?.getD 0=y at *;obtain⟨Y,J⟩:=ε (w.alloc (.cells #[.int .i64 D.p,.int .i64 D.m,.slice A D.mod.length c] 24));rw[←J]at I T X;replace J:=η J;clear hc;go_enter Tryz.func235,Tryz.ntmps235;go_wp2_with fail;rw[←J.out];refine wp_region_held_drew (S:=fun w'=>(w'.cell? ⟨w.heap.size,0,none⟩=some (.int .i64 D.p)∧w'.cell? ⟨w.heap.size,1,none⟩=some (.int .i64 D.m)∧w'.cell? ⟨w.heap.size,2,none⟩=some (.slice A D.mod.length c))∧w'.cell? ⟨b,o+k,none⟩=some (.int .i64 y)) (by kernel_rfl) (by (try dsimp only);exact T.out) (fun hHeld=>?_);refine tk 0 ?_;simp only[pS]
  refine tk 1 ?_;simp only[pS]
  refine tk 2 ?_;simp only[pS]
  refine tk 3 ?_;simp only[pS]
  refine tk 4 ?_;simp only[pS]
  refine rd 5 fun K hK=>?_
  go_simp;go_at_call 49;(with_reducible refine (O Y.drew).out.mono ?_);rintro e w1 ⟨rfl,ag⟩;have U:=(Below.refl Y.heap.size Y).drew.trans ag;go_wp2_with fail;refine hK.out _ _ (by (try dsimp only);exact⟨Qau U (by rw[J.out];simp) T.out.1,(U.cell (p:=⟨b,o+k,none⟩) (θ hb I.size)).trans T.out.2⟩) (fun hHeld=>?_);clear hK K;try simp only[pS]
  refine tk 6 ?_;simp only[pS]
  refine δ ?_;go_wp2_with fail;go_ret;exact⟨rfl,ζ I U⟩
 ·have ae:¬ (k:Int)<(p.length:Int):=by omega
  have ak:(p.length:Int)≤(k:Int):=by omega
  have hf:Hid (ci (cfR D p k)=0):=by unfold Hid;rw[Qao D (by omega),QaF]
  go_enter Tryz.func235,Tryz.ntmps235;go_wp2_with fail;go_ret;exact⟨by rw[hf.out];rfl,I⟩
theorem Qgb (D:Desc)(a:Int)(p:List Int)(A A1:Option Addr)(c c1:Nat)(w:World)(hr:Rd w w.heap.size A (Qan D))(aE:Rd w w.heap.size A1 p)(hl:p.length≤20000) :
  Calls Tryz.prog 222 #[.agg #[.int .i64 D.p,.int .i64 D.m,.slice A D.mod.length c],.int .i64 a,.slice A1 p.length c1] w (Qcj w.heap.size (Qcr D a p) w):=by
 have hM:=fun y W h=>Qdb D a y A c W h
 obtain⟨m,hm⟩:=ε (p.length);obtain⟨f,hf⟩:=ε (fun i=>eli D a*cfR D p i:Nat→R D)
 have ar:=Qea D f m;rw[show Qep (fun i=>ci (f i)) m=Qcr D a p from by rw[hf,hm];rfl]at ar;have aW:=QaC m (by omega);have hC:=fun A' c' W h=>QaN D (lst m fun i=>ci (f i)) A A' c c' W h (by rw[Qab];omega)
 rw[ar,Qab]at hC;obtain⟨X,T⟩:=ε (w.alloc (.cells #[.int .i64 D.p,.int .i64 D.m,.slice A D.mod.length c] 24));have aj:Below w.heap.size w X:=by rw[T];exact β
 have av:X.heap.size=w.heap.size+1:=by rw[T];simp
 have aw:Bx X w.heap.size D A D.mod.length c:=by rw[T];exact Bx.new w D A D.mod.length c _
 obtain⟨g,hg⟩:=ε (w.heap.size+1);obtain⟨Y,V⟩:=ε (X.alloc (.cells (Array.replicate m (Value.int .i64 0)) 3));have O:IB Y g (upd m 0 fun i=>ci (f i)):=by rw[QaP,V,hg,←av];exact IB.newz X m
 have ak:Below X.heap.size X Y:=by rw[V];exact β
 have ax:=ζ aj ak;have ay:=aw.below ak (by omega);have al:w.heap.size<g:=by omega
 rw[←hm];have aX:m≤20000:=by omega
 replace hm:=η hm;replace hf:=η hf;replace T:=η T;replace V:=η V;clear aw aj av ak;go_enter Tryz.func222,Tryz.ntmps222;go_wp2_with fail;rw[←T.out];rw[←V.out];simp only[←hg];replace hg:=η hg;go_loopw [8] (fun iS wr=>∃i:Nat,i≤m∧iS=.int .i64 i∧Hid (IB wr g (upd m i fun i=>ci (f i)))∧Bx wr w.heap.size D A D.mod.length c∧Below w.heap.size w wr) (fun iS _=>m - (intOf iS).toNat)
 case atStart=>exact⟨0,by omega,rfl,O,ay,ax⟩
 case round =>
  clear O ay ax T V;obtain⟨I,rfl⟩:=ε (wr:World);obtain⟨i,hi,rfl,O,aA,J⟩:=hrel;have aG:=O.out.lt;have aH:w.heap.size<I.heap.size:=by omega
  by_cases aC:i<m
  ·have i0:(0:Int)≤(i:Int):=by omega
   have i1:(i:Int)<(m:Int):=by omega
   obtain⟨b,o,rfl,hb,hc⟩:=aE.at_ (k:=i) (by rw[←hm.out];exact aC);have aI:Rd I.drew I.drew.heap.size A (Qan D):=(hr.bm J).drew;have aa:=hM (p[i]?.getD 0) I.drew aI;rw[show eli D a*eli D (p[i]?.getD 0)=f i from by rw[hf.out];rfl]at aa;obtain⟨y,hy⟩:=ε (p[i]?.getD 0);obtain⟨v,hv⟩:=ε (ci (f i));rw[←hy]at hc aa;rw[←hv]at aa;have hd:=(J.cell (p:=⟨b,o+i,none⟩) hb).trans hc;have aJ:=θ hb J.size;have aK:b≠g:=by omega
   have am:=η (show _∧_ from ⟨aA.cells,hd⟩);have aL:Hid (i<(upd m i fun i=>ci (f i)).length):=by unfold Hid;rw[Qaz];exact aC
   replace aa:=η aa;replace hy:=η hy;replace hv:=η hv;clear hc hd;go_wp2_with fail;refine wp_region_held_drew (S:=fun w'=>(w'.cell? ⟨w.heap.size,0,none⟩=some (.int .i64 D.p)∧w'.cell? ⟨w.heap.size,1,none⟩=some (.int .i64 D.m)∧w'.cell? ⟨w.heap.size,2,none⟩=some (.slice A D.mod.length c))∧w'.cell? ⟨b,o+i,none⟩=some (.int .i64 y)) (by kernel_rfl) (by (try dsimp only);exact am.out) (fun hHeld=>?_);refine tk 0 ?_;simp only[pS]
   refine tk 1 ?_;simp only[pS]
   refine tk 2 ?_;simp only[pS]
   refine tk 3 ?_;simp only[pS]
   refine tk 4 ?_;simp only[pS]
   refine tk 5 ?_;simp only[pS]
   refine tk 6 ?_;simp only[pS]
   refine tk 7 ?_;simp only[pS]
   refine rd 8 fun K hK=>?_
   go_simp;go_at_call 57;(with_reducible refine (aa).out.mono ?_);rintro e w3 ⟨rfl,aR⟩;have U:=(Below.refl I.heap.size I).drew.trans aR;have a0:=U.size;have ah:=η (show _∧_ from ⟨Qau U aH am.out.1,(U.cell (p:=⟨b,o+i,none⟩) aJ).trans am.out.2⟩);have ad:=O.out.below U aG;have aM:=ad.cell aL.out;have aN:=ad.frozen i;go_wp2_with fail;refine hK.out _ _ ah.out fun hHeld=>?_;clear hK K;try simp only[pS]
   refine tk 9 ?_;simp only[pS]
   refine rd 10 fun K hK=>?_
   go_simp;refine hK.out _ _ (by (try dsimp only);exact⟨Qau (B:=g) (κ.setCell (p:=⟨g,i,none⟩) ρ _) al ah.out.1,(World.cell?_setCell_far _ _ _ _ aK.symm).trans ah.out.2⟩) (fun hHeld=>?_);clear hK K;try simp only[pS]
   refine δ ?_;have ai:=ad.set_ i v;rw[hv.out,QaY (f:=fun i=>ci (f i)),←hv.out]at ai;have aO:Hid (Below w.heap.size w (w3.setCell ⟨g,i,none⟩ (.int .i64 v))):=(ζ J U).setCell (p:=⟨g,i,none⟩) (Nat.le_of_lt al) _;have aP:Hid (Bx (w3.setCell ⟨g,i,none⟩ (.int .i64 v)) w.heap.size D A D.mod.length c):=Qau (B:=g) (κ.setCell (p:=⟨g,i,none⟩) ρ _) al ah.out.1;replace ai:=η ai;clear aM aN;go_wp2_with fail;go_roundw
   case rel=>exact⟨i+1,by omega,by go_num,ai,aP.out,aO.out⟩
   case measure=>simp[intOf];omega
  ·obtain rfl:i=m:=by omega
   rw[QaR]at O;obtain⟨q0,q1,q2⟩:=aA.cells;have aQ:=η (hC (some ⟨g,0,none⟩) i I O.out.rd);go_wp2_with fail;(with_reducible refine aQ.out.mono ?_);rintro e w3 ⟨g3,rfl,aT,ad,U⟩;go_wp2_with fail;go_ret;exact⟨g3,rfl,τ J.size aT,ad,ζ J U⟩
theorem QrL (n:Nat)(w:World)(hn:n≤20000) :
  Calls Tryz.prog 192 #[.int .i64 n] w (Qcj w.heap.size (Qk0 n) w):=by
 obtain⟨m,J⟩:=ε (n+1);have X:=QaC m (by omega);rw[show (m:Int)=(n:Int)+1 by omega]at X;have n0:(0:Int)≤(n:Int):=by omega
 have n1:(n:Int)<(m:Int):=by omega
 have I:=IB.newz w m;have ad:=I.cell (i:=n) (by simp;omega);have ae:=I.frozen n;have O:=I.set_ n 1;rw[show (List.replicate m (0:Int)).set n 1=Qk0 n from by
  apply List.ext_getElem?;intro i;unfold Qk0 lst;rw[←J,List.getElem?_map];by_cases T:i<m
  ·rw[List.getElem?_range T];by_cases e:i=n
   ·subst e;rw[List.getElem?_set_self (by simpa using T)];simp
   ·rw[List.getElem?_set_ne (fun h=>e h.symm),List.getElem?_replicate_of_lt T];simp[e]
  ·rw[List.getElem?_eq_none (by simp;omega),List.getElem?_eq_none (by simp;omega)];rfl]at O
 have U:Below w.heap.size w ((w.alloc (.cells (Array.replicate m (Value.int .i64 0)) 3)).setCell ⟨w.heap.size,n,none⟩ (.int .i64 1)):=(β).setCell (p:=⟨w.heap.size,n,none⟩) ρ _;have V:Hid (Qcj w.heap.size (Qk0 n) w (.returned (.slice (some ⟨w.heap.size,0,none⟩) m m)) ((w.alloc (.cells (Array.replicate m (Value.int .i64 0)) 3)).setCell ⟨w.heap.size,n,none⟩ (.int .i64 1))):=⟨w.heap.size,by rw[Qeb,←J],Nat.le_refl _,O,U⟩;have Y:Hid ((w.alloc (.cells (Array.replicate m (Value.int .i64 0)) 3)).setCell ⟨w.heap.size,n,none⟩ (.int .i64 1)=w.alloc (.cells ((Array.replicate m (Value.int .i64 0)).setIfInBounds n (.int .i64 1)) 3)):=World.setCell_alloc_at _ _ _ _ _ rfl;replace J:=η J;clear I O U;go_enter Tryz.func192,Tryz.ntmps192;go_wp2_with fail;go_ret
 first |exact V.out |(rw[←Y.out];exact V.out)
end
end Go.Proofs
