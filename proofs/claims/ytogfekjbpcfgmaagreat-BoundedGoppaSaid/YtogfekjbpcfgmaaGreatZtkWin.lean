/- Layer 39 of the program: within. -/
import Derived.Test.YtogfekjbpcfgmaaGreatZtkBalP
set_option maxRecDepth 100000
set_option maxHeartbeats 16000000
set_option linter.unusedVariables false
namespace Go.Proofs
open Go.RowKit Cw
def QqC (S F:FD)(rt kn:Nat)(pts mul er:List Int)(u:Nat→R S.z)(ec:Int)(la lb:List Int):Prop :=
 (ec=12∧la=[]∧lb=[]∧Qsu S F rt kn pts mul er u)∨(ec=0∧∃v,la=QaK S.z pts.length v∧lb=Qbu (QaK S.z pts.length v) (QaK S.z pts.length u) er pts.length∧QqB S F rt kn pts mul er u v)
def Qgp (S:FD)(D:Desc)(kn:Nat)(pts mul er:List Int)(u:Nat→R S.z)(w:World)(e:Ending)(w':World):Prop :=
 Below w.heap.size w w'∧∃ (F:FD) (rt:Nat) (I Ab:Option Addr) (ca cb:Nat) (ec:Int) (la lb:List Int),F.z=D∧Qjl S F rt∧e=.returned (.tuple #[.agg #[.slice I la.length ca,.slice Ab lb.length cb],.int .i64 ec])∧QqC S F rt kn pts mul er u ec la lb ∧
  Rd w' w'.heap.size I la∧Rd w' w'.heap.size Ab lb∧(∀a,I=some a→w.heap.size≤a.block)∧∀a,Ab=some a→w.heap.size≤a.block
theorem Qek.form3 {F:FD} {kn:Nat} {pts mul wl er:List Int} {w:World} {e:Ending} {w':World} (h:Qek F kn pts mul wl er w e w'):Below w.heap.size w w'∧∃v ec,e=.returned (.tuple #[v,.int .i64 ec]) ∧
  ((ec=0∧∃I g c,v=.slice (some ⟨g,0,none⟩) pts.length c∧QfU F.z kn pts mul wl er I∧IB w' g (Qa5 F.z pts mul I)∧w.heap.size≤g)∨(ec=12∧v=.slice none 0 0∧QgF F.z kn pts mul wl er)):=by
 obtain⟨O,⟨I,A,c,J,rfl,V,T,g,rfl,U⟩ |⟨J,rfl⟩⟩:=h
 ·exact⟨O,_,_,rfl,.inl ⟨rfl,I,g,c,rfl,J,U,T _ rfl⟩⟩
 ·exact⟨O,_,_,rfl,.inr ⟨rfl,rfl,J⟩⟩
theorem BkI.start (S F:FD)(r:R F.z)(z:Int):BkI S F r z 0 (lst F.q fun _=>z) :=
 ⟨Qab _ _,fun _ I=>⟨fun _ J=>absurd J (Nat.not_lt_zero _),fun _=>Qas _ I⟩⟩
theorem QhY (S:FD)(D:Desc)(kn:Nat)(pts mul er:List Int)(u:Nat→R S.z)(a4:Int)(A B A1 A2 Aw Ae:Option Addr)(c b c1 c2 cw ce:Nat)(w:World)(hS:Qcq S.p S.m (Qan S.z))(hD:Qcq D.p D.m (Qan D))(hz:gchkD D kn pts mul=0)(hf:Qh4 S.z D=true)
  (hr:Rd w w.heap.size A (Qan S.z)) (bx:Rd w w.heap.size B (Qan D)) (cn:Rd w w.heap.size A1 pts) (co:Rd w w.heap.size A2 mul) (h1:pts.length≤c1) (di:c1≤maxLen) (cp:Rd w w.heap.size Aw (QaK S.z pts.length u)) (cq:Rd w w.heap.size Ae er) (dj:er.length≤1000000)
  (bA:∀x∈er,0≤x∧x<(pts.length:Int)) (cr:er.Nodup) (dk:∀e:Nat,2*e+er.length+kn≤pts.length→(e:Int)≤a4) :
  Calls Tryz.prog 67 #[.agg #[.int .i64 S.p,.int .i64 S.m,.slice A S.mod.length c],.agg #[.int .i64 D.p,.int .i64 D.m,.slice B D.mod.length b,.int .i64 (kn:Int),.slice A1 pts.length c1,.slice A2 mul.length c2],.slice Aw pts.length cw,.slice Ae er.length ce,.int .i64 a4] w (Qgp S D kn pts mul er u w):=by
 have eu:=S.z.q256;obtain⟨eI,cZ,-,-,-,-,-,-,-⟩:=Qbn hz;have cs:=fun W a=>η (QeP D B b W a hD)
 have ct:=fun W a=>η (Qgo er pts.length cZ bA Ae ce W a dj)
 have ev:=QaC pts.length (by omega);obtain⟨s,hs⟩:=ε (w.heap.size);obtain⟨Z,hZ⟩:=ε (((w.alloc (.cells #[.int .i64 S.p,.int .i64 S.m,.slice A S.mod.length c] 24)).alloc (.cells #[.int .i64 D.p,.int .i64 D.m,.slice B D.mod.length b,.int .i64 (kn:Int),.slice A1 pts.length c1,.slice A2 mul.length c2] 94)).alloc (.cells #[.slice none 0 0,.slice none 0 0] 52));have hB:Below w.heap.size w Z:=by rw[hZ];exact ((β).alloc (by simp) _).alloc (by simp;omega) _
 have cu:Z.heap.size=s+1+1+1:=by rw[hZ,hs];simp
 have bB:Hid (Bxs Z s [.int .i64 S.p,.int .i64 S.m,.slice A S.mod.length c]):=by rw[hZ,hs];exact ((Bxs.new w _ _).keep (β) (by simp)).keep (β) (by simp;omega)
 have bC:Hid (Bxs Z (s+1) [.int .i64 D.p,.int .i64 D.m,.slice B D.mod.length b,.int .i64 (kn:Int),.slice A1 pts.length c1,.slice A2 mul.length c2]):=by
  rw[hZ,hs];have h9:=Bxs.new (w.alloc (.cells #[.int .i64 S.p,.int .i64 S.m,.slice A S.mod.length c] 24)) [.int .i64 D.p,.int .i64 D.m,.slice B D.mod.length b,.int .i64 (kn:Int),.slice A1 pts.length c1,.slice A2 mul.length c2] 94;rw[World.size_alloc]at h9;exact h9.keep (β) (by simp)
 have cv:Hid (Bxs Z (s+1+1) [.slice none 0 0,.slice none 0 0]):=by
  rw[hZ,hs];have h9:=Bxs.new ((w.alloc (.cells #[.int .i64 S.p,.int .i64 S.m,.slice A S.mod.length c] 24)).alloc (.cells #[.int .i64 D.p,.int .i64 D.m,.slice B D.mod.length b,.int .i64 (kn:Int),.slice A1 pts.length c1,.slice A2 mul.length c2] 94)) [.slice none 0 0,.slice none 0 0] 52;rw[World.size_alloc,World.size_alloc]at h9;exact h9
 have T:=cs Z (bx.bm hB);have cx:s+1+1<Z.heap.size:=by omega
 replace hZ:=η hZ;replace cu:=η cu;clear cs;have a6:=η (Qdz.1 hf);replace hz:=η hz;replace hD:=η hD;unfold Qgp;go_enter Tryz.func67,Tryz.ntmps67;obtain⟨d0,d1,d2,d3,d4,d5⟩:=bC.out.c6;go_wp2_with fail;rw[←hZ.out];simp only[←hs];have ew:w.heap.size≤s:=Nat.le_of_eq hs.symm;replace hs:=η hs;go_wp2_with fail;(with_reducible refine T.out.mono ?_);rintro e w1 ⟨g,F,rfl,rfl,eM,b5,br⟩;clear T d0 d1 d2 d3 d4 d5;have ex:=F.z.q256;have hp:=a6.out.1;have cy:S.m∣F.m:=by
  obtain⟨k,e,-,-,h9⟩:=QeQ a6.out.2;have e2:S.m=k:=by omega
  rw[e2];exact h9
 obtain⟨rt,bo⟩:=Qlv hp cy;have h0:=bo.2.1;have cz:=ζ hB br;have T:=η (QiL S F rt A c g w1 b5 (hr.bm cz) hS hp a6.out.2 bo);obtain⟨a0,a1,a2⟩:=(bB.out.keep br (by omega)).c3;have dl:=QaC F.q (by omega);have a7:=η hp;have a8:=η h0;have bD:=η bo;clear a6 hf cy hp h0 bo;go_wp2_with fail;(with_reducible refine T.out.mono ?_);rintro e w2 ⟨v,rfl,c9,b6⟩;clear T a0 a1 a2;obtain⟨Ai,eK,rfl,ed,c3,-⟩:=c9.form;rw[QbT]at ed ⊢;have aM:=ζ br b6;have X:=ζ hB aM;have bE:=b5.bm b6;have T:=η (Qc5 F g w2 bE);obtain⟨gb,aq⟩:=ε (w2.heap.size);obtain⟨Y,hY⟩:=ε (w2.alloc (.cells (Array.replicate F.q (Value.int .i64 0)) 3));have cA:Below gb w2 Y:=by rw[hY,aq];exact β
 have cB:Hid (IB Y gb (upd F.q 0 fun _=>(-1:Int))):=by rw[hY,aq,QaP];exact η (IB.newz w2 F.q)
 have dm:s+1+1<gb:=by rw[aq];exact θ cx aM.size
 have dn:w.heap.size≤gb:=by rw[aq];exact X.size
 have ey:=η (bB.out.keep aM (by omega));have dp:=η (bC.out.keep aM (by omega));have dq:=η (cv.out.keep aM cx);have cC:=bE;have bF:=c3;have cD:=bx.bm X;have cE:=cn.bm X;have cF:=co.bm X;have bG:=cp.bm X;have cG:=cq.bm X;rw[←aq]at cC bF cD cE cF bG cG;replace hY:=η hY;clear c9 b5 bE c3 bx cn co cp cq hr bB bC cv;go_wp2_with fail;(with_reducible refine T.out.mono ?_);rintro e wq ⟨rfl,rfl⟩;clear T;go_wp2_with fail;rw[←hY.out];simp only[←aq];replace aq:=η aq;go_loopw [44,17] (fun iS _ wr=>∃k:Nat,k≤F.q∧iS=.int .i64 k∧Hid (IB wr gb (upd F.q k fun _=>(-1:Int)))∧Below gb w2 wr) (fun iS _ _=>F.q - (intOf iS).toNat)
 case atStart=>exact⟨0,by omega,rfl,cB,cA⟩
 case round =>
  clear cB cA dl;obtain⟨w3,rfl⟩:=ε (wr:World);obtain⟨k,hk,rfl,V,az⟩:=hrel;by_cases aO:k<F.q
  ·have k0:(0:Int)≤(k:Int):=by omega
   have k1:(k:Int)<(F.q:Int):=by omega
   have a9:=V.out.cell (i:=k) (by rw[Qaz];exact aO);have bH:=V.out.frozen k;have O:=V.out.set_ k (-1);rw[QaY F.q k (fun _=>(-1:Int))]at O;replace O:=η O;have bI:=η (az.setCell (p:=⟨gb,k,none⟩) ρ (.int .i64 (-1)));clear V;go_wp2_with fail;go_roundw
   case rel=>exact⟨k+1,by omega,by go_num,O,bI.out⟩
   case measure=>simp[intOf];omega
  ·obtain rfl:F.q=k:=by omega
   rw[QaR]at V;have cH:=η (BkI.start S F (rel F.z rt) (-1));go_wp2_with fail;go_loopw [53,18,19] (fun i _ _ wr=>∃ (k:Nat) (L:List Int),k≤S.q∧i=.int .i64 k∧Hid (IB wr gb L)∧Hid (BkI S F (rel F.z rt) (-1) k L)∧Below gb w2 wr) (fun i _ _ _=>S.q - (intOf i).toNat)
   case atStart=>exact⟨0,_,by omega,rfl,V,cH,az⟩
   case round =>
    clear V cH az;obtain⟨w3,rfl⟩:=ε (wr:World);obtain⟨k,L,hk,rfl,V,aA,az⟩:=hrel;have ds:=V.out.lt;by_cases cf:k<S.q
    ·have j0:(0:Int)≤(k:Int):=by omega
     have j1:(k:Int)<(S.q:Int):=by omega
     obtain⟨bi,oi,rfl,ef,bb⟩:=bF.at_ (k:=k) (by rw[QbT];exact cf);rw[QeR S F rt cf]at bb;obtain⟨y,hy⟩:=ε (QaA (phi S F (rel F.z rt) (rel S.z k)):Nat);have du:y<F.q:=by rw[hy];exact QaM _
     have ba:=aA.out.step a7.out a8.out cf;rw[←hy]at ba;rw[show ci (phi S F (rel F.z rt) (rel S.z k))=(y:Int) from by rw[hy];rfl]at bb;replace ba:=η ba;replace hy:=η hy;replace bb:=(az.cell (p:=⟨bi,oi+k,none⟩) ef).trans bb;have a9:=V.out.cell (i:=y) (by rw[aA.out.1];exact du);have bH:=V.out.frozen y;have O:=η (V.out.set_ y (k:Int));have y0:(0:Int)≤(y:Int):=by omega
     have y1:(y:Int)<(F.q:Int):=by omega
     have bI:=η (az.setCell (p:=⟨gb,y,none⟩) ρ (.int .i64 k));go_wp2_with fail;go_roundw
     case rel=>exact⟨k+1,_,by omega,by go_num,O,ba,bI.out⟩
     case measure=>simp[intOf];omega
    ·have aO:k=S.q:=by omega
     rw[aO]at aA;replace aO:=η aO;obtain⟨f,hf⟩:=ε (fun j=>ci (phi S F (rel F.z rt) (u j)):Nat→Int)
     have dx:Hid (lst pts.length f=QjI S F rt pts.length u):=by rw[hf];exact η rfl
     have dy:Hid (∀j,(Qov S F rt)[QaA (u j)]?.getD 0=f j):=fun j=>by rw[hf,QeR S F rt (QaM (u j)),QaT]
     obtain⟨gB,aH⟩:=ε (w3.heap.size);obtain⟨Y3,aP⟩:=ε (w3.alloc (.cells (Array.replicate pts.length (Value.int .i64 0)) 3));have cI:Below gB w3 Y3:=by rw[aP,aH];exact β
     have cJ:Hid (IB Y3 gB (upd pts.length 0 f)):=by rw[aP,aH,QaP];exact η (IB.newz w3 pts.length)
     have bc:gb<gB:=by rw[aH];exact ds
     replace aP:=η aP;replace hf:=η hf;go_wp2_with fail;rw[←aP.out];simp only[←aH];replace aH:=η aH;go_loopw [68,21,22] (fun iS _ _ wr=>∃k:Nat,k≤pts.length∧iS=.int .i64 k∧Hid (IB wr gB (upd pts.length k f))∧Below gB w3 wr) (fun iS _ _ _=>pts.length - (intOf iS).toNat)
     case atStart=>exact⟨0,by omega,rfl,cJ,cI⟩
     case round =>
      clear cJ cI;obtain⟨J,rfl⟩:=ε (wr:World);obtain⟨k,hk,rfl,aB,b2⟩:=hrel;have af:=az.trans (b2.mono (Nat.le_of_lt bc));have cK:=aB.out.lt;by_cases cg:k<pts.length
      ·have k0:(0:Int)≤(k:Int):=by omega
       have k1:(k:Int)<(pts.length:Int):=by omega
       obtain⟨bw,ow,rfl,ei,b3⟩:=bG.at_ (k:=k) (by rw[Qae];exact cg);rw[Qa0 _ _ cg]at b3;have dz:=(af.cell (p:=⟨bw,ow+k,none⟩) ei).trans b3;obtain⟨x,hx⟩:=ε (QaA (u k):Nat);have dA:x<S.q:=by rw[hx];exact QaM _
       rw[show ci (u k)=(x:Int) from by rw[hx];rfl]at dz;obtain⟨be,oe,rfl,el,b4⟩:=bF.at_ (k:=x) (by rw[QbT];exact dA);rw[hx,dy.out k,←hx]at b4;have dB:=(af.cell (p:=⟨be,oe+x,none⟩) el).trans b4;obtain⟨y,hy⟩:=ε (f k);rw[←hy]at dB;have x0:(0:Int)≤(x:Int):=by omega
       have x1:(x:Int)<(S.q:Int):=by omega
       have a9:=aB.out.cell (i:=k) (by rw[Qaz];exact cg);have bH:=aB.out.frozen k;have O:=aB.out.set_ k y;rw[hy,QaY,←hy]at O;replace O:=η O;have bJ:=η (b2.setCell (p:=⟨gB,k,none⟩) ρ (.int .i64 y));replace hx:=η hx;replace hy:=η hy;clear b3 b4 aB;go_wp2_with fail;go_roundw
       case rel=>exact⟨k+1,by omega,by go_num,O,bJ.out⟩
       case measure=>simp[intOf];omega
      ·obtain rfl:pts.length=k:=by omega
       rw[QaR,dx.out]at aB;have aI:gb≤J.heap.size:=τ (Nat.le_of_lt bc) (Nat.le_of_lt cK);have dC:=η (V.out.below b2 bc);have cL:gb<J.heap.size:=Nat.lt_trans bc cK;have dD:=(cD.below af).more aI;have dE:=(cE.below af).more aI;have dF:=(cF.below af).more aI;have dG:=(bG.below af).more aI;have cM:=(cG.below af).more aI;have dH:=(cC.below af).more aI;have bf:Hid (J.cell? ⟨s+1,0,none⟩=some (.int .i64 F.p)∧J.cell? ⟨s+1,1,none⟩=some (.int .i64 F.m)∧J.cell? ⟨s+1,2,none⟩=some (.slice B F.mod.length b)∧J.cell? ⟨s+1,3,none⟩=some (.int .i64 (kn:Int))∧J.cell? ⟨s+1,4,none⟩=some (.slice A1 pts.length c1)∧J.cell? ⟨s+1,5,none⟩=some (.slice A2 mul.length c2)):=(dp.out.keep af (by omega)).c6;have dI:=η (dq.out.keep af dm);have bg:=X.trans (af.mono dn);have aQ:=fun gm W x1 x2 x3 x4 x5 x6=>(QfV F kn pts mul (QjI S F rt pts.length u) er hz.out hD.out (QgY S F rt pts.length u) (Qm1 S F rt pts.length u) bA cr B A1 A2 (some ⟨gB,0,none⟩) b c1 c2 pts.length gm g W x1 x2 x3 x4 h1 di x5 x6).mono fun _ _ hp=>hp.form3
       rw[QgY]at aQ;have cN:=ct J.drew cM.drew;replace aQ:=fun gm W x1 x2 x3 x4 x5 x6=>η (aQ gm W x1 x2 x3 x4 x5 x6)
       have cO:s+1<J.heap.size:=by omega
       have bh:s+1+1<J.heap.size:=by omega
       have dJ:=aB.out.rd;obtain⟨d0,d1,d2,d3,d4,d5⟩:=bf.out;go_wp2_with fail;clear d0 d1 d2 d3 d4 d5;refine wp_region_held_drew (S:=fun w'=>w'.cell? ⟨s+1,0,none⟩=some (.int .i64 F.p)∧w'.cell? ⟨s+1,1,none⟩=some (.int .i64 F.m)∧w'.cell? ⟨s+1,2,none⟩=some (.slice B F.mod.length b)∧w'.cell? ⟨s+1,3,none⟩=some (.int .i64 (kn:Int))∧w'.cell? ⟨s+1,4,none⟩=some (.slice A1 pts.length c1)∧w'.cell? ⟨s+1,5,none⟩=some (.slice A2 mul.length c2)) (by kernel_rfl) (by (try dsimp only);exact bf.out) (fun hHeld=>?_);refine tk 0 ?_;simp only[pS]
       refine tk 1 ?_;simp only[pS]
       refine tk 2 ?_;simp only[pS]
       refine tk 3 ?_;simp only[pS]
       refine tk 4 ?_;simp only[pS]
       refine tk 5 ?_;simp only[pS]
       refine rd 6 fun K hK=>?_
       go_simp;go_at_call 64;(with_reducible refine (cN).out.mono ?_);rintro e w6 ⟨gm,rfl,eO,da,bJ⟩;have I:Below J.heap.size J w6:=(Below.refl _ J).drew.trans bJ;have dK:Hid (w6.cell? ⟨s+1,0,none⟩=some (.int .i64 F.p)∧w6.cell? ⟨s+1,1,none⟩=some (.int .i64 F.m)∧w6.cell? ⟨s+1,2,none⟩=some (.slice B F.mod.length b)∧w6.cell? ⟨s+1,3,none⟩=some (.int .i64 (kn:Int))∧w6.cell? ⟨s+1,4,none⟩=some (.slice A1 pts.length c1)∧w6.cell? ⟨s+1,5,none⟩=some (.slice A2 mul.length c2)):=QbS I cO bf.out;have cP:=aQ gm w6 (dH.bm I) (dD.bm I) (dE.bm I) (dF.bm I) (dJ.bm I) da;go_wp2_with fail;refine hK.out _ _ dK.out fun hHeld=>?_;clear hK K;try simp only[pS]
       refine rd 7 fun K hK=>?_
       go_simp;go_at_call 123;(with_reducible refine (cP).out.mono ?_);rintro e w7 ⟨db,vc,ec,rfl,en⟩;have ax:=ζ I db;have dL:Hid (w7.cell? ⟨s+1,0,none⟩=some (.int .i64 F.p)∧w7.cell? ⟨s+1,1,none⟩=some (.int .i64 F.m)∧w7.cell? ⟨s+1,2,none⟩=some (.slice B F.mod.length b)∧w7.cell? ⟨s+1,3,none⟩=some (.int .i64 (kn:Int))∧w7.cell? ⟨s+1,4,none⟩=some (.slice A1 pts.length c1)∧w7.cell? ⟨s+1,5,none⟩=some (.slice A2 mul.length c2)):=QbS ax cO bf.out;go_wp2_with fail;refine hK.out _ _ dL.out fun hHeld=>?_;clear hK K;try simp only[pS]
       refine tk 8 ?_;simp only[pS]
       refine tk 9 ?_;simp only[pS]
       refine tk 10 ?_;simp only[pS]
       refine tk 11 ?_;simp only[pS]
       refine tk 12 ?_;simp only[pS]
       refine δ ?_;have cQ:=ζ bg ax;have aR:=dI.out.keep ax bh;have eC:s+1+1<w7.heap.size:=θ bh ax.size;rcases en with ⟨rfl,de,gc,cc,rfl,df,ag,et⟩ |⟨rfl,rfl,dg⟩;rotate_left
       ·obtain⟨q0,q1⟩:=aR.c2;obtain⟨f0,f1⟩:=aR.f2;have bK:=η (cQ.trans ((QeF (w:=w7) (b:=s+1+1) (.slice none 0 0) (.slice none 0 0)).mono (by omega)));have bL:=η (Qwp a7.out a8.out hz.out dg);clear dg aR;go_wp2_with fail;refine bodyPost_ret (v:=.tuple #[.agg #[.slice none 0 0,.slice none 0 0],.int .i64 12]) (by simp[results,Tryz.results67,go_sem,q0,q1]) rfl ⟨bK.out,F,rt,none,none,0,0,12,[],[],rfl,bD.out,rfl,.inl ⟨rfl,rfl,rfl,bL.out⟩,Rd.nil,Rd.nil,(fun _ e=>by cases e),fun _ e=>by cases e⟩
       obtain⟨cl,aV⟩:=ε (Qa5 F.z pts mul de);have cR:cl.length=pts.length:=by rw[aV];exact Qcs _ _ _ _
       have dM:Hid (∀j,j<pts.length→∃y:Nat,cl[j]?.getD 0=(y:Int)∧y<F.q):=fun j hj=>by
        rw[aV,QkQ F.z hj];exact⟨_,rfl,QaM _⟩
       obtain⟨U,bM⟩:=ε (fun j=>L[(cl[j]?.getD 0).toNat]?.getD 0:Nat→Int)
       have dN:=η (dC.out.below ax cL);rw[←aV,←QkA cl U]at ag;have dO:gb<w6.heap.size:=θ cL I.size;have cS:=η ag;have eD:=db.size;have cT:=η aV;have aS:=η cR;replace bM:=η bM;have cU:Hid (∀j,j<0→∃x:R S.z,ci (phi S F (rel F.z rt) x)=cl[j]?.getD 0∧U j=ci x):=fun j hj=>absurd hj (Nat.not_lt_zero _)
       have cV:Below w6.heap.size w7 w7:=κ;have dP:=η aR;clear aV cR ag aR cN aQ cP da;go_wp2_with fail;go_loopw [97,25,26] (fun iS _ _ wr=>∃i:Nat,i≤pts.length∧iS=.int .i64 i∧Hid (IB wr gc (Qox cl i U))∧Hid (∀j,j<i→∃x:R S.z,ci (phi S F (rel F.z rt) x)=cl[j]?.getD 0∧U j=ci x)∧Below w6.heap.size w7 wr) (fun iS _ _ _=>pts.length - (intOf iS).toNat)
       case atStart=>exact⟨0,by omega,rfl,cS,cU,cV⟩
       case round =>
        clear cS cU cV;obtain⟨w8,rfl⟩:=ε (wr:World);obtain⟨i,hi,rfl,ag,c8,aL⟩:=hrel;have eE:=ag.out.lt;have dQ:=η (dN.out.below aL dO);have bj:=cQ.trans (aL.mono (τ bg.size I.size));have dR:s+1+1<w6.heap.size:=θ bh I.size;have aJ:=dP.out.keep aL dR;by_cases a3:i<pts.length
        ·have i0:(0:Int)≤(i:Int):=by omega
         have i1:(i:Int)<(pts.length:Int):=by omega
         obtain⟨y,au,bq⟩:=dM.out i a3;have dS:=ag.out.cell (i:=i) (by rw[Qcb,aS.out];exact a3);rw[show (Qox cl i U)[i]?.getD 0=(y:Int) from by unfold Qox;rw[Qas _ (by rw[aS.out];exact a3),if_neg (Nat.lt_irrefl i)];exact au]at dS;have cW:=dQ.out.cell (i:=y) (by rw[aA.out.1];exact bq);have y0:(0:Int)≤(y:Int):=by omega
         have y1:(y:Int)<(F.q:Int):=by omega
         by_cases hx:∃x,x<S.q∧QaA (phi S F (rel F.z rt) (rel S.z x))=y
         ·obtain⟨x,aW,ay⟩:=hx;rw[(aA.out.2 y bq).1 x aW ay]at cW;have eH:¬ ((x:Int)<0):=by omega
          have bN:Hid (U i=(x:Int)):=by
           rw[bM.out]
           show L[(cl[i]?.getD 0).toNat]?.getD 0=(x:Int)
           rw[au,Int.toNat_natCast];exact (aA.out.2 y bq).1 x aW ay
          have dT:Hid (∀j,j<i+1→∃x:R S.z,ci (phi S F (rel F.z rt) x)=cl[j]?.getD 0∧U j=ci x):=fun j hj=>by
           by_cases e:j=i
           ·rw[e];exact⟨rel S.z x,by rw[au,←ay];rfl,by rw[bN.out,QsJ aW]⟩
           ·exact c8.out j (by omega)
          have a9:=ag.out.cell (i:=i) (by rw[Qcb,aS.out];exact a3);have bH:=ag.out.frozen i;have O:=ag.out.set_ i (x:Int);rw[←bN.out,QmA,bN.out]at O;replace O:=η O;have al:=η (aL.setCell (p:=⟨gc,i,none⟩) et (.int .i64 (x:Int)));replace au:=η au;replace ay:=η ay;clear a9 aJ;go_wp2_with fail;go_roundw
          case rel=>exact⟨i+1,by omega,by go_num,O,dT,al.out⟩
          case measure=>simp[intOf];omega
         ·rw[(aA.out.2 y bq).2 fun x aW ay=>hx ⟨x,aW,ay⟩]at cW;have bL:Hid (Qsu S F rt kn pts mul er u):=QuP a7.out a8.out hz.out bA cr df a3 fun x e=>hx ⟨QaA x,QaM x,by
           rw[QaT];have e2:ci (phi S F (rel F.z rt) x)=(y:Int):=by rw[e,←cT.out,au]
           exact Int.ofNat.inj e2⟩
          obtain⟨q0,q1⟩:=aJ.c2;obtain⟨f0,f1⟩:=aJ.f2;have bK:=η (bj.trans ((QeF (w:=w8) (b:=s+1+1) (.slice none 0 0) (.slice none 0 0)).mono (by omega)));replace au:=η au;replace hx:=η hx;clear aJ;go_wp2_with fail;refine bodyPost_ret (v:=.tuple #[.agg #[.slice none 0 0,.slice none 0 0],.int .i64 12]) (by simp[results,Tryz.results67,go_sem,q0,q1]) rfl ⟨bK.out,F,rt,none,none,0,0,12,[],[],rfl,bD.out,rfl,.inl ⟨rfl,rfl,rfl,bL.out⟩,Rd.nil,Rd.nil,(fun _ e=>by cases e),fun _ e=>by cases e⟩
        ·obtain rfl:pts.length=i:=by omega
         obtain⟨v,hv⟩:∃v:Nat→R S.z,v=fun j=>eli S.z (U j):=⟨_,rfl⟩
         have bO:∀j,j<pts.length→ci (phi S F (rel F.z rt) (v j))=cl[j]?.getD 0∧U j=ci (v j):=fun j hj=>by
          obtain⟨x,e1,e2⟩:=c8.out j hj;have e3:v j=x:=by rw[hv];show eli S.z (U j)=x;rw[e2];exact Qam x
          rw[e3];exact⟨e1,e2⟩
         have dV:Hid (Qa5 F.z pts mul de=QjI S F rt pts.length v):=by
          rw[Hid,←cT.out,QoC cl,aS.out];exact Qay fun j hj=>(bO j hj).1.symm
         have bP:Qox cl pts.length U=QaK S.z pts.length v:=by
          have e:=QkB cl U;rw[aS.out]at e;rw[e];exact Qay fun j hj=>(bO j hj).2
         have bQ:=Qwq a7.out a8.out hz.out df dV.out;rw[bP]at ag;have bR:=ag.out.rd;have bS:¬ a4<((Qbu (QaK S.z pts.length v) (QaK S.z pts.length u) er pts.length).length:Int):=by have:=dk _ bQ.2;omega
         have bT:J.heap.size≤w8.heap.size:=τ ax.size aL.size;have cX:=ax.trans (aL.mono I.size);have T:=ct w8 ((cM.below cX).more bT);have bk:=fun gm W x1 x2 x3=>(Qfm pts.length (QaK S.z pts.length v) (QaK S.z pts.length u) er a4 cZ (Qae _ _ _) (Qae _ _ _) (some ⟨gc,0,none⟩) Aw cc cw gm W x1 x2 x3).mono fun _ _ hp=>And.intro hp.1 (ResPost.in hp.2 bS)
         replace bk:=fun gm W x1 x2 x3=>η (bk gm W x1 x2 x3)
         have dW:=η bQ;have dX:=(dG.below cX).more bT;replace hv:=η hv;replace bP:=η bP;replace bS:=η bS;have dY:w.heap.size≤gc:=by have:=bg.size;have:=I.size;omega
         clear bO bQ;go_wp2_with fail;(with_reducible refine T.out.mono ?_);rintro e w9 ⟨ep,rfl,eQ,dc,al⟩;clear T;have T:=bk ep w9 (bR.bm al) (dX.bm al) dc;clear bk dc;go_wp2_with fail;(with_reducible refine T.out.mono ?_);rintro e wa ⟨es,bs,bt,rfl,dd,b7⟩;clear T;have bl:=ζ al es;have dZ:s+1+1<w8.heap.size:=θ bh bT;have bV:=aJ.keep bl dZ;obtain⟨q0,q1⟩:=bV.c2;obtain⟨f0,f1⟩:=bV.f2;have d6:=ζ bj bl;obtain⟨le,bm⟩:=ε ((Qbu (QaK S.z pts.length v) (QaK S.z pts.length u) er pts.length).length);have cY:Hid (Qgp S F.z kn pts mul er u w (.returned (.tuple #[.agg #[.slice (some ⟨gc,0,none⟩) pts.length cc,.slice bs le bt],.int .i64 0])) ((wa.setCell ⟨s+1+1,0,none⟩ (.slice (some ⟨gc,0,none⟩) pts.length cc)).setCell ⟨s+1+1,1,none⟩ (.slice bs le bt))):=by
          have d7:=bj.size;have d8:=al.size;refine⟨d6.trans ((QeF _ _).mono (by omega)),F,rt,some ⟨gc,0,none⟩,bs,cc,bt,0,QaK S.z pts.length v,_,rfl,bD.out,?_,.inr ⟨rfl,v,rfl,rfl,dW.out⟩,?_,?_,fun a e=>by cases e;exact dY,fun a e=>τ (τ d7 d8) (b7 a e)⟩
          ·rw[Qae,bm]
          ·exact ((bR.bm bl).far (g:=s+1+1) (fun a e=>by cases e;show gc≠s+1+1;omega) 0 _).far (g:=s+1+1) (fun a e=>by cases e;show gc≠s+1+1;omega) 1 _ |>.more (by simp[World.setCell])
          ·exact ((dd.far (g:=s+1+1) (fun a e=>by have h1:=b7 a e;omega) 0 _).far (g:=s+1+1) (fun a e=>by have h1:=b7 a e;omega) 1 _).more (by simp[World.setCell])
         unfold Qgp at cY;rw[←bm];replace bm:=η bm;clear bR dd bV aJ;go_wp2_with fail;refine bodyPost_ret (v:=.tuple #[.agg #[.slice (some ⟨gc,0,none⟩) pts.length cc,.slice bs le bt],.int .i64 0]) (by simp[results,Tryz.results67,go_sem,q0,q1]) rfl cY.out
end Go.Proofs
