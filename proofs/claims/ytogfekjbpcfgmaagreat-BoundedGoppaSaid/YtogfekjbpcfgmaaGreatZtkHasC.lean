/- The reference's codes: Rest, In, Check, Word, Has of a canonical code. -/
import Derived.Test.YtogfekjbpcfgmaaGreatZtkHasA
set_option maxRecDepth 100000
set_option maxHeartbeats 16000000
set_option linter.unusedVariables false
namespace Go.Proofs
open Go.RowKit Cw
section
def Qec {D:Desc} (n:Nat)(p:Nat→Nat)(M:Nat→Nat→R D)(u:Nat→R D):Nat→R D:=fun j=>u j+Qat n (fun i=>-(u (p i))*M i j)
theorem QnQ (D:Desc)(n m:Nat)(M:Nat→Nat→R D)(u:Nat→R D)(A Ar A1:Option Addr)(c cr c1:Nat)(w:World)(hr:Rd w w.heap.size A (Qan D))(aF:RdM w w.heap.size Ar n (Qaw D m M))(aG:Rd w w.heap.size A1 (QaK D m u))(hn:n≤1000)(hm:m≤70000)
  (hp:∀i,i<n→fnz (Qaw D m M i)<m) :
  Calls Tryz.prog 108 #[.agg #[.int .i64 D.p,.int .i64 D.m,.slice A D.mod.length c],.slice Ar n cr,.slice A1 m c1] w fun e w'=>∃X c2,e=.returned (.slice X m c2)∧Rd w' w'.heap.size X (QaK D m (Qec n (fun i=>fnz (Qaw D m M i)) M u))∧Below w.heap.size w w':=by
 have hP:=fun W a=>η (Qkz n (Qaw D m M) Ar cr W a hn (fun i _=>by rw[Qaw,Qae];omega))
 have hN:=fun y W=>Qhg D y A D.mod.length c W
 have aJ:=fun f h a A1 X c1 c2 W x y z=>Qgc D m f h a A A1 X c c1 c2 W x y z hm
 obtain⟨Z,U⟩:=ε (w.alloc (.cells #[.int .i64 D.p,.int .i64 D.m,.slice A D.mod.length c] 24));have hB:Below w.heap.size w Z:=by rw[U];exact β
 have k0:=η (show Z.cell? ⟨w.heap.size,0,none⟩=some (.int .i64 D.p)∧Z.cell? ⟨w.heap.size,1,none⟩=some (.int .i64 D.m)∧Z.cell? ⟨w.heap.size,2,none⟩=some (.slice A D.mod.length c) from by rw[U];exact Qb9 w _ _ _ _);have ba:w.heap.size<Z.heap.size:=by rw[U];simp
 replace U:=η U;have bb:=hP Z (aF.bm hB);clear hP;go_enter Tryz.func108,Tryz.ntmps108;go_wp2_with fail;rw[←U.out];(with_reducible refine bb.out.mono ?_);rintro e w1 ⟨v1,rfl,a5,aC⟩;have bx:=aC.size;have bc:=η (Qau aC ba k0.out);have an:=ζ hB aC;obtain⟨Ap,cp,rfl,bo,bq,-⟩:=a5.form;rw[Qab]at bo;have be:w.heap.size<w1.heap.size:=by omega
 obtain⟨W1,aq⟩:=ε (w1.alloc (.cells #[] 3));have aK:Below w1.heap.size w1 W1:=by rw[aq];exact β
 have bf:w1.heap.size<W1.heap.size:=by rw[aq];simp
 have aL:Own W1 w1.heap.size (.slice (some ⟨w1.heap.size,0,none⟩) 0 0) []:=by rw[aq];exact Own.of_IB (l:=[]) (heap_alloc_new _ _) ρ (by simp[maxLen])
 have aM:=ζ an aK;have aN:=aG.bm aM;have aO:([]:List Int).length+(QaK D m u).length≤1000000000:=by rw[Qae];simp;omega
 have aP:m=(QaK D m u).length:=(Qae _ _ _).symm;have bg:=η aP;subst aq;clear a5 aP;rw[Qab];go_wp2_with (at_builtin;refine Qda (n2:=m) rfl (.tmp 12) (.tmp 13) rfl w1.heap.size _ [] _ A1 c1 (QaK D m u) aL aN rfl rfl bg.out aO (Nat.le_of_lt bf) ?_;intro v2 w2 aD bw bJ bK;rw[List.nil_append]at aD;obtain⟨X,c2,rfl,br,bs,bF⟩:=aD.form;rw[Qae]at br);have ao:=aK.trans bw;have bh:=ao.size;have bi:=(bq.below ao).more bh;have aQ:=ζ an ao;have bj:=η (Qau ao be bc.out);clear aD aN aO aL;rw[Qae];go_loopw [9,8] (fun i v wr=>∃ (k:Nat) (Av:Option Addr) (cv:Nat),k≤n∧i=.int .i64 k∧v=.slice Av m cv∧Rd wr wr.heap.size Av (QaK D m (Qec k (fun i=>fnz (Qaw D m M i)) M u))∧Below w2.heap.size w2 wr) (fun i _ _=>n - (intOf i).toNat)
 case atStart=>exact⟨0,X,c2,by omega,rfl,rfl,by rw[show Qec 0 (fun i=>fnz (Qaw D m M i)) M u=u from funext fun j=>Qad _];exact bs,κ⟩
 case round =>
  obtain⟨k,Av,cv,hk,rfl,rfl,aZ,T⟩:=hrel;obtain⟨w3,rfl⟩:=ε (wr:World);have J:=ζ aQ T;by_cases aw:k<n
  ·have bz:(0:Int)≤(k:Int):=by omega
   have bA:(k:Int)<(n:Int):=by omega
   have ax:=hp k aw;obtain⟨b,o,Ak,ck,rfl,hb,hc,a2,-,-⟩:=aF.at_ aw;have hd:=(J.cell (p:=⟨b,o+k,none⟩) hb).trans hc;rw[show (Qaw D m M k).length=m from Qae _ _ _]at hd;have bk:=a2.bm J;obtain⟨bp,op,rfl,a3,aA⟩:=bi.at_ (by rw[Qab];exact aw:k<(lst n fun i=>(fnz (Qaw D m M i):Int)).length);rw[Qas _ aw]at aA;have az:=(T.cell (p:=⟨bp,op+k,none⟩) a3).trans aA;obtain⟨bu,ou,rfl,a4,aB⟩:=aG.at_ (by rw[Qae];exact ax:fnz (Qaw D m M k)<(QaK D m u).length);rw[Qa0 D u ax]at aB;have ap:=(J.cell (p:=⟨bu,ou+fnz (Qaw D m M k),none⟩) a4).trans aB;have aR:=fun W=>η (hN (ci (u (fnz (Qaw D m M k)))) W)
   have O:=fun W x y z=>aJ (Qec k (fun i=>fnz (Qaw D m M i)) M u) (M k) (ci (-(eli D (ci (u (fnz (Qaw D m M k))))))) Av Ak cv ck W x y z
   have bl:Hid ((fun j=>Qec k (fun i=>fnz (Qaw D m M i)) M u j+eli D (ci (-(eli D (ci (u (fnz (Qaw D m M k)))))))*M k j)=Qec (k+1) (fun i=>fnz (Qaw D m M i)) M u):=funext fun j=>by
    rw[Qam,Qam];unfold Qec;rw[Qaj,QcD]
   rw[bl.out]at O;unfold Qcj at O;rw[Qae]at O;replace O:=fun W x y z=>η (O W x y z)
   obtain⟨I,ab⟩:=ε (fnz (Qaw D m M k));rw[←ab]at az ap ax;have bB:(0:Int)≤(I:Int):=by omega
   have bC:(I:Int)<(m:Int):=by omega
   obtain⟨y,hy⟩:=ε (ci (u I));rw[←ab,←hy]at aR;rw[←ab,←hy]at O;rw[←hy]at ap;replace ab:=η ab;replace hy:=η hy;have aS:w.heap.size<w3.heap.size:=by have:=T.size;omega
   have aT:w.heap.size≤w3.heap.size:=J.size;have aU:=Qau T (by omega) bj.out;have ad:=η (show (_∧_∧_)∧_∧_∧_ from ⟨aU,hd,az,ap⟩);have aV:b<w3.heap.size:=θ hb aT;have aW:bp<w3.heap.size:=θ a3 T.size;have aX:bu<w3.heap.size:=θ a4 aT;clear hc aA aB hd az ap aU a2 hN aJ;go_wp2_with fail;refine wp_region_held_drew (S:=fun w'=>(w'.cell? ⟨w.heap.size,0,none⟩=some (.int .i64 D.p)∧w'.cell? ⟨w.heap.size,1,none⟩=some (.int .i64 D.m)∧w'.cell? ⟨w.heap.size,2,none⟩=some (.slice A D.mod.length c))∧w'.cell? ⟨b,o+k,none⟩=some (.slice Ak m ck)∧w'.cell? ⟨bp,op+k,none⟩=some (.int .i64 I)∧w'.cell? ⟨bu,ou+I,none⟩=some (.int .i64 y)) (by kernel_rfl) (by (try dsimp only);exact ad.out) (fun hHeld=>?_);refine tk 0 ?_;simp only[pS]
   refine tk 1 ?_;simp only[pS]
   refine tk 2 ?_;simp only[pS]
   refine tk 3 ?_;simp only[pS]
   refine tk 4 ?_;simp only[pS]
   refine tk 5 ?_;simp only[pS]
   refine tk 6 ?_;simp only[pS]
   refine tk 7 ?_;simp only[pS]
   refine tk 8 ?_;simp only[pS]
   refine tk 9 ?_;simp only[pS]
   refine tk 11 ?_;simp only[pS]
   refine tk 12 ?_;simp only[pS]
   refine tk 13 ?_;simp only[pS]
   refine tk 14 ?_;simp only[pS]
   refine rd 10 fun K hK=>?_
   go_simp;go_at_call 101;(with_reducible refine (aR _).out.mono ?_);rintro e w4 ⟨rfl,Y⟩;have ae:=η (show (_∧_∧_)∧_∧_∧_ from ⟨Qau Y aS ad.out.1,(Y.cell (p:=⟨b,o+k,none⟩) aV).trans ad.out.2.1,(Y.cell (p:=⟨bp,op+k,none⟩) aW).trans ad.out.2.2.1,(Y.cell (p:=⟨bu,ou+I,none⟩) aX).trans ad.out.2.2.2⟩);have V:Below w3.heap.size w3 w4:=(Below.refl _ w3).drew.trans Y;have aY:=ζ J V;have af:w3.heap.size≤w4.heap.size:=Y.size;have bm:=O w4 (hr.bm aY) (aZ.bm V) (bk.bm V);go_wp2_with fail;refine hK.out _ _ ae.out fun hHeld=>?_;clear hK K;try simp only[pS]
   refine rd 15 fun K hK=>?_
   go_simp;go_at_call 99;(with_reducible refine (bm).out.mono ?_);rintro e w5 ⟨g5,rfl,bI,bv,ak⟩;go_wp2_with fail;refine hK.out _ _ (by (try dsimp only);exact⟨Qau ak (θ aS af) ae.out.1,(ak.cell (p:=⟨b,o+k,none⟩) (θ aV af)).trans ae.out.2.1,(ak.cell (p:=⟨bp,op+k,none⟩) (θ aW af)).trans ae.out.2.2.1,(ak.cell (p:=⟨bu,ou+I,none⟩) (θ aX af)).trans ae.out.2.2.2⟩) (fun hHeld=>?_);clear hK K;try simp only[pS]
   refine tk 16 ?_;simp only[pS]
   refine δ ?_;go_wp2_with fail;go_roundw
   case rel=>exact⟨k+1,some ⟨g5,0,none⟩,m,by omega,by go_num,rfl,bv.rd,T.trans ((V.trans (ak.mono af)).mono T.size)⟩
   case measure=>simp[intOf];omega
  ·obtain rfl:k=n:=by omega
   go_wp2_with fail;go_ret;exact⟨Av,cv,rfl,aZ,J⟩
theorem QrO (D:Desc)(n m:Nat)(M:Nat→Nat→R D)(u:Nat→R D)(A Ar U:Option Addr)(c V c1:Nat)(w:World)(X:Rd w w.heap.size A (Qan D))(Y:RdM w w.heap.size Ar n (Qaw D m M))(aa:Rd w w.heap.size U (QaK D m u))(hn:n≤1000)(hm:m≤70000)
  (hp:∀i,i<n→fnz (Qaw D m M i)<m) :
  Calls Tryz.prog 51 #[.agg #[.int .i64 D.p,.int .i64 D.m,.slice A D.mod.length c],.slice Ar n V,.slice U m c1] w fun e w'=>e=.returned (.bool (QqK (QaK D m (Qec n (fun i=>fnz (Qaw D m M i)) M u))))∧Below w.heap.size w w':=by
 obtain⟨Z,J⟩:=ε (w.alloc (.cells #[.int .i64 D.p,.int .i64 D.m,.slice A D.mod.length c] 24));have I:Below w.heap.size w Z:=by rw[J];exact β
 obtain⟨q0,q1,q2⟩:=(show Z.cell? ⟨w.heap.size,0,none⟩=some (.int .i64 D.p)∧Z.cell? ⟨w.heap.size,1,none⟩=some (.int .i64 D.m)∧Z.cell? ⟨w.heap.size,2,none⟩=some (.slice A D.mod.length c) from by rw[J];exact Qb9 w _ _ _ _);have hR:=η (QnQ D n m M u A Ar U c V c1 Z (X.bm I) (Y.bm I) (aa.bm I) hn hm hp);have T:=fun O c2 W a=>QnP (QaK D m (Qec n (fun i=>fnz (Qaw D m M i)) M u)) O c2 W a (by rw[Qae];omega)
 rw[Qae]at T;replace T:=fun O c2 W a=>η (T O c2 W a)
 rw[J]at q0 q1 q2;replace J:=η J;clear hp;go_enter Tryz.func51,Tryz.ntmps51;go_wp2_with fail;rw[←J.out];(with_reducible refine hR.out.mono ?_);rintro e w1 ⟨O,c2,rfl,ah,ai⟩;go_wp2_with fail;(with_reducible refine (T O c2 w1 ah).out.mono ?_);rintro e w2 ⟨rfl,rfl⟩;go_wp2_with fail;go_ret;exact⟨rfl,ζ I ai⟩
end
section
def QqL (F:FD)(n m:Nat)(M:Nat→Nat→R F.z):Prop:=rkS F n m M=n∧∀i,i<n→Qaw F.z m (elS n M m).1 i=Qaw F.z m M i
theorem QgS (D:Desc)(m:Nat)(f:Nat→R D):elB D (QaK D m f)=true:=QaJ.2 fun j I=>by
 rw[Qae]at I;rw[Qa0 D f I];exact⟨Qa8 _,Qeu _⟩
theorem QpN (F:FD)(aB:Qcq F.p F.m (Qan F.z))(n m:Nat)(M:Nat→Nat→R F.z)(A Ar:Option Addr)(c Y:Nat)(w:World)(hr:Rd w w.heap.size A (Qan F.z))(ar:RdM w w.heap.size Ar n (Qaw F.z m M))(hn:n≤256)(hm:m≤256) :
  Calls Tryz.prog 158 #[.agg #[.int .i64 F.p,.int .i64 F.m,.slice A F.mod.length c],.agg #[.int .i64 m,.slice Ar n Y]] w fun e w'=>e=.returned (.int .i64 0)∧Below w.heap.size w w':=by
 have aN:=F.p256;have aO:=F.m8;have aD:(Qan F.z).length≤maxLen:=by have:=F.hlen;have:=F.m8;rw[Qaf,F.hlen];unfold maxLen;split <;> omega
 have hC:=fun W a=>Qdd F.p F.m (Qan F.z) A c W (by omega) (by omega) aD a
 rw[QdB aB,Qaf]at hC;replace hC:=fun W a=>η (hC W a)
 have hE:=fun i A1 c1 W a=>Qgz F.z (Qaw F.z m M i) A A1 c c1 W a (by rw[Qaw,Qae];omega)
 have aF:∀i,elB F.z (Qaw F.z m M i)=true:=fun i=>QgS _ _ _
 obtain⟨Z,hZ⟩:=ε ((w.alloc (.cells #[.int .i64 F.p,.int .i64 F.m,.slice A F.mod.length c] 24)).alloc (.cells #[.int .i64 m,.slice Ar n Y] 120));have hB:Below w.heap.size w Z:=by rw[hZ];exact (β).alloc (by simp) _
 have au:w.heap.size+1<Z.heap.size:=by rw[hZ];simp
 have kz:=η (show (Z.cell? ⟨w.heap.size,0,none⟩=some (.int .i64 F.p)∧Z.cell? ⟨w.heap.size,1,none⟩=some (.int .i64 F.m)∧Z.cell? ⟨w.heap.size,2,none⟩=some (.slice A F.mod.length c))∧Z.cell? ⟨w.heap.size+1,0,none⟩=some (.int .i64 m)∧Z.cell? ⟨w.heap.size+1,1,none⟩=some (.slice Ar n Y) from by rw[hZ];simp[go_sem]);replace hZ:=η hZ;have kp:∀ {B:Nat} {W W':World},Below B W W'→w.heap.size+1<B→Hid ((W.cell? ⟨w.heap.size,0,none⟩=some (.int .i64 F.p)∧W.cell? ⟨w.heap.size,1,none⟩=some (.int .i64 F.m)∧W.cell? ⟨w.heap.size,2,none⟩=some (.slice A F.mod.length c))∧W.cell? ⟨w.heap.size+1,0,none⟩=some (.int .i64 m)∧W.cell? ⟨w.heap.size+1,1,none⟩=some (.slice Ar n Y)) →
   Hid ((W'.cell? ⟨w.heap.size,0,none⟩=some (.int .i64 F.p)∧W'.cell? ⟨w.heap.size,1,none⟩=some (.int .i64 F.m)∧W'.cell? ⟨w.heap.size,2,none⟩=some (.slice A F.mod.length c))∧W'.cell? ⟨w.heap.size+1,0,none⟩=some (.int .i64 m)∧W'.cell? ⟨w.heap.size+1,1,none⟩=some (.slice Ar n Y)):=fun {B W W'} X ak h =>
  ⟨Qau X (by omega) h.out.1,(X.cell (p:=⟨w.heap.size+1,0,none⟩) ak).trans h.out.2.1,(X.cell (p:=⟨w.heap.size+1,1,none⟩) ak).trans h.out.2.2⟩
 replace kp:=fun {B:Nat} {W W':World} a b d=>η (@kp B W W' a b d)
 have aG:=hC Z (hr.bm hB);go_enter Tryz.func158,Tryz.ntmps158;obtain⟨⟨J,O,T⟩,U,V⟩:=kz.out;go_wp2_with fail;rw[←hZ.out];(with_reducible refine aG.out.mono ?_);rintro e w1 ⟨rfl,ap⟩;have k1:=(kp ap au kz).out;have ax:=ζ hB ap;have al:w.heap.size+1<w1.heap.size:=θ au ap.size;clear J O T U V;obtain⟨⟨J,O,T⟩,U,V⟩:=k1.out;have aP:¬ (m:Int)<0:=by omega
 have aQ:¬ (256:Int)<(m:Int):=by omega
 have aR:¬ (256:Int)<(n:Int):=by omega
 go_wp2_with fail;clear J O T U V;go_loopw [6] (fun i wr=>∃k:Nat,k≤n∧i=.int .i64 k∧Below w1.heap.size w1 wr) (fun i _=>n - (intOf i).toNat)
 case atStart=>exact⟨0,by omega,rfl,κ⟩
 case round =>
  obtain⟨k,hk,rfl,I⟩:=hrel;obtain⟨w3,rfl⟩:=ε (wr:World);have am:=ζ ax I;have k3:=(kp I al k1).out;obtain⟨⟨J,O,T⟩,U,V⟩:=k3.out;by_cases ak:k<n
  ·have aS:(0:Int)≤(k:Int):=by omega
   have aT:(k:Int)<(n:Int):=by omega
   obtain⟨b,o,Ak,ck,rfl,X,hc,-,-,-⟩:=ar.at_ ak;have hd:=(am.cell (p:=⟨b,o+k,none⟩) X).trans hc;rw[show (Qaw F.z m M k).length=m from Qae _ _ _]at hd;have aU:((m:Int) !=(m:Int))=false:=by simp
   clear hc;go_wp2_with fail;go_quiet (fail);go_wp2_with fail;go_roundw
   case rel=>exact⟨k+1,by omega,by go_num,⟨I.os,I.tape,I.output,I.size,I.block⟩⟩
   case measure=>simp[intOf];omega
  ·obtain rfl:k=n:=by omega
   go_wp2_with fail;clear J O T U V;go_loopw [7,5] (fun i e wr=>∃j:Nat,j≤k∧i=.int .i64 j∧(∃x,e=.int .i64 x)∧Below w3.heap.size w3 wr) (fun i _ _=>k - (intOf i).toNat)
   case atStart=>exact⟨0,by omega,rfl,⟨_,rfl⟩,κ⟩
   case round =>
    obtain⟨j,hj,rfl,⟨x5,rfl⟩,ag⟩:=hrel;obtain⟨w5,rfl⟩:=ε (wr:World);have ad:=ζ am ag;have k5:=(kp ag (θ al I.size) k3).out;by_cases aK:j<k
    ·have aV:(0:Int)≤(j:Int):=by omega
     have aW:(j:Int)<(k:Int):=by omega
     obtain⟨b,o,Ak,ck,rfl,X,hc,az,-,-⟩:=ar.at_ aK;have hd:=(ad.cell (p:=⟨b,o+j,none⟩) X).trans hc;have ae:=hE j Ak ck w5.drew (az.bm ad).drew;rw[show elE F.z (Qaw F.z m M j)=0 from if_neg (by rw[aF j];simp)]at ae;rw[show (Qaw F.z m M j).length=m from Qae _ _ _]at hd ae;replace ae:=η ae;have ao:=η (show _∧_ from ⟨k5.out,hd⟩);have aH:b<w5.heap.size:=θ X ad.size;have aI:w.heap.size+1<w5.heap.size:=θ (θ al I.size) ag.size;obtain⟨⟨J,O,T⟩,U,V⟩:=k5.out;clear hc hd az;go_wp2_with fail;clear J O T U V;refine wp_region_held_drew (S:=fun w'=>((w'.cell? ⟨w.heap.size,0,none⟩=some (.int .i64 F.p)∧w'.cell? ⟨w.heap.size,1,none⟩=some (.int .i64 F.m)∧w'.cell? ⟨w.heap.size,2,none⟩=some (.slice A F.mod.length c))∧w'.cell? ⟨w.heap.size+1,0,none⟩=some (.int .i64 m)∧w'.cell? ⟨w.heap.size+1,1,none⟩=some (.slice (some ⟨b,o,none⟩) k Y))∧w'.cell? ⟨b,o+j,none⟩=some (.slice Ak m ck)) (by kernel_rfl) (by (try dsimp only);exact ao.out) (fun hHeld=>?_);refine tk 0 ?_;simp only[pS]
     refine tk 1 ?_;simp only[pS]
     refine tk 2 ?_;simp only[pS]
     refine tk 3 ?_;simp only[pS]
     refine tk 4 ?_;simp only[pS]
     refine tk 5 ?_;simp only[pS]
     refine rd 6 fun K hK=>?_
     go_simp;go_at_call 162;(with_reducible refine (ae).out.mono ?_);rintro e w6 ⟨rfl,aq⟩;go_wp2_with fail;refine hK.out _ _ (by (try dsimp only);exact⟨(kp aq aI (η ao.out.1)).out.out,(aq.cell (p:=⟨b,o+j,none⟩) aH).trans ao.out.2⟩) (fun hHeld=>?_);clear hK K;try simp only[pS]
     refine tk 7 ?_;simp only[pS]
     refine δ ?_;go_wp2_with fail;go_roundw
     case rel=>exact⟨j+1,by omega,by go_num,⟨_,rfl⟩,ag.drew.trans (aq.mono ag.size)⟩
     case measure=>simp[intOf];omega
    ·obtain rfl:j=k:=by omega
     obtain⟨⟨J,O,T⟩,U,V⟩:=k5.out;go_wp2_with fail;go_ret;exact⟨rfl,ad⟩
theorem QnR (F:FD)(ap:Qcq F.p F.m (Qan F.z))(n m:Nat)(M:Nat→Nat→R F.z)(ae:QqL F n m M)(A Ar:Option Addr)(c I:Nat)(w:World)(hr:Rd w w.heap.size A (Qan F.z))(af:RdM w w.heap.size Ar n (Qaw F.z m M))(hn:n≤256)(hm:m≤256) :
  Calls Tryz.prog 97 #[.agg #[.int .i64 F.p,.int .i64 F.m,.slice A F.mod.length c],.agg #[.int .i64 m,.slice Ar n I]] w fun e w'=>e=.returned (.int .i64 0)∧Below w.heap.size w w':=by
 have h9:=fun W a b=>η (QpN F ap n m M A Ar c I W a b hn hm)
 have U:=fun W a b=>Qgd F n m m M A Ar c I W a b (by omega) (by omega) ρ
 unfold QfM at U;rw[ae.1]at U;replace U:=fun W a b=>η (U W a b)
 have hS:=fun A1 c1 W a b=>η (QlA n (Qaw F.z m M) A1 Ar c1 I W a b (by omega) (fun i _=>by rw[Qaw,Qae];omega))
 obtain⟨Z,J⟩:=ε ((w.alloc (.cells #[.int .i64 F.p,.int .i64 F.m,.slice A F.mod.length c] 24)).alloc (.cells #[.int .i64 m,.slice Ar n I] 120));have O:Below w.heap.size w Z:=by rw[J];exact (β).alloc (by simp) _
 have al:w.heap.size+1<Z.heap.size:=by rw[J];simp
 have kz:=show (Z.cell? ⟨w.heap.size,0,none⟩=some (.int .i64 F.p)∧Z.cell? ⟨w.heap.size,1,none⟩=some (.int .i64 F.m)∧Z.cell? ⟨w.heap.size,2,none⟩=some (.slice A F.mod.length c))∧Z.cell? ⟨w.heap.size+1,0,none⟩=some (.int .i64 m)∧Z.cell? ⟨w.heap.size+1,1,none⟩=some (.slice Ar n I) from by rw[J];simp[go_sem]
 have av:=h9 Z (hr.bm O) (af.bm O);have V:∀ {B:Nat} {W W':World},Below B W W'→w.heap.size+1<B→((W.cell? ⟨w.heap.size,0,none⟩=some (.int .i64 F.p)∧W.cell? ⟨w.heap.size,1,none⟩=some (.int .i64 F.m)∧W.cell? ⟨w.heap.size,2,none⟩=some (.slice A F.mod.length c))∧W.cell? ⟨w.heap.size+1,0,none⟩=some (.int .i64 m)∧W.cell? ⟨w.heap.size+1,1,none⟩=some (.slice Ar n I)) →
   ((W'.cell? ⟨w.heap.size,0,none⟩=some (.int .i64 F.p)∧W'.cell? ⟨w.heap.size,1,none⟩=some (.int .i64 F.m)∧W'.cell? ⟨w.heap.size,2,none⟩=some (.slice A F.mod.length c))∧W'.cell? ⟨w.heap.size+1,0,none⟩=some (.int .i64 m)∧W'.cell? ⟨w.heap.size+1,1,none⟩=some (.slice Ar n I)):=fun {B W W'} hb ao h =>
  ⟨Qau hb (by omega) h.1,(hb.cell (p:=⟨w.heap.size+1,0,none⟩) ao).trans h.2.1,(hb.cell (p:=⟨w.heap.size+1,1,none⟩) ao).trans h.2.2⟩
 have aw:=η kz;replace V:=fun {B:Nat} {W W':World} a b d=>η (@V B W W' a b d)
 rw[J]at kz;replace J:=η J;have ax:=η ae.2;clear ae h9;go_enter Tryz.func97,Tryz.ntmps97;obtain⟨⟨Y,q1,q2⟩,q3,q4⟩:=kz;go_wp2_with fail;rw[←J.out];(with_reducible refine av.out.mono ?_);rintro e w1 ⟨rfl,ah⟩;have T:=ζ O ah;have k1:=(V ah al aw.out).out;have ay:=η k1;have az:w.heap.size+1<w1.heap.size:=θ al ah.size;clear Y q1 q2 q3 q4;obtain⟨⟨Y,q1,q2⟩,q3,q4⟩:=k1;go_wp2_with fail;(with_reducible refine (U w1 (hr.bm T) (af.bm T)).out.mono ?_);rintro e w2 ⟨Al,cl,Ap,cp,rfl,an,aE,-,-,-,-⟩;have X:=ζ T an;have k2:=(V an az ay.out).out;have aB:=hS Al cl w2 (aE.rdm.congr ax.out) (af.bm X);clear Y q1 q2 q3 q4;obtain⟨⟨Y,q1,q2⟩,q3,q4⟩:=k2;go_wp2_with fail;(with_reducible refine aB.out.mono ?_);rintro e w3 ⟨rfl,aF⟩;go_wp2_with fail;go_ret;exact⟨rfl,ζ X aF⟩
theorem QrP (F:FD)(I m:Nat)(J:Nat→Nat→R F.z):QqL F (rkS F I m J) m (elS I J m).1:=by
 obtain⟨O,T⟩:=Qmi (Qcz I m J);refine⟨O,fun i U=>?_⟩;unfold Qaw QaK;exact Qay fun j V=>congrArg ci ((T i (by unfold rkS at U;omega)).2 j V)
theorem QfN {D:Desc} {l:List Int} (h:elB D l=true):l=QaK D l.length (fun j=>eli D (l[j]?.getD 0)):=by
 apply List.ext_getElem
 ·rw[Qae]
 ·intro j I T;have J:=Qa0 D (fun j=>eli D (l[j]?.getD 0)) (j:=j) (m:=l.length) I;rw[List.getElem?_eq_getElem T,Option.getD_some]at J;rw[J];have O:=QaJ.1 h j I;rw[Qci O,List.getElem?_eq_getElem I,Option.getD_some]
end
end Go.Proofs
