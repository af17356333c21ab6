/- The reference's rows: AddTo, scale, Copy. -/
import Derived.Test.YtogfekjbpcfgmaaGreatZtkGrsB
set_option maxRecDepth 100000
set_option maxHeartbeats 16000000
set_option linter.unusedVariables false
namespace Go.Proofs
open Go.RowKit Cw
section
theorem Qe1 {B b J T O U:Nat} {W w1:World} {X v1 v2 Y v4:Value} (V:Below B W w1)(h2:b<B)(h3:J<B)(h5:O<B)(I:W.cell? ⟨b,0,none⟩=some X∧W.cell? ⟨b,1,none⟩=some v1∧W.cell? ⟨b,2,none⟩=some v2∧W.cell? ⟨J,T,none⟩=some Y∧W.cell? ⟨O,U,none⟩=some v4) :
  w1.cell? ⟨b,0,none⟩=some X∧w1.cell? ⟨b,1,none⟩=some v1∧w1.cell? ⟨b,2,none⟩=some v2∧w1.cell? ⟨J,T,none⟩=some Y∧w1.cell? ⟨O,U,none⟩=some v4 :=
 have k:=Qau V h2 ⟨I.1,I.2.1,I.2.2.1⟩
 ⟨k.1,k.2.1,k.2.2,(V.cell (p:=⟨J,T,none⟩) h3).trans I.2.2.2.1,(V.cell (p:=⟨O,U,none⟩) h5).trans I.2.2.2.2⟩
theorem QnL (D:Desc)(m:Nat)(f:Nat→R D)(a:Int)(A A1:Option Addr)(c c1:Nat)(w:World)(hr:Rd w w.heap.size A (Qan D))(av:Rd w w.heap.size A1 (QaK D m f))(hm:m≤70000) :
  Calls Tryz.prog 207 #[.agg #[.int .i64 D.p,.int .i64 D.m,.slice A D.mod.length c],.int .i64 a,.slice A1 m c1] w (Qcj w.heap.size (QaK D m fun j=>eli D a*f j) w):=by
 have hM:=fun z W hr=>η (Qdb D a z A c W hr)
 have aE:=QaC m hm;have ap:=Bx.new w D A D.mod.length c 24;obtain⟨Y,O⟩:=ε ((w.alloc (.cells #[.int .i64 D.p,.int .i64 D.m,.slice A D.mod.length c] 24)).alloc (.cells (Array.replicate m (Value.int .i64 0)) 3));obtain⟨g,hg⟩:=ε (w.heap.size+1);have I:IB Y g (upd m 0 fun j=>ci (eli D a*f j)):=by
  rw[QaP,O,hg];have:=IB.newz (w.alloc (.cells #[.int .i64 D.p,.int .i64 D.m,.slice A D.mod.length c] 24)) m;rw[World.size_alloc]at this;exact this
 have hB:Below w.heap.size w Y:=by rw[O];exact (β).alloc (by simp) _
 have J:Bx Y w.heap.size D A D.mod.length c:=by rw[O];exact ap.below (β) (by simp)
 have ar:w.heap.size<g:=by omega
 replace O:=η O;replace I:=η I;clear ap;go_enter Tryz.func207,Tryz.ntmps207;go_wp2_with fail;rw[←O.out];simp only[←hg];replace hg:=η hg;go_loopw [8] (fun i wr=>∃k:Nat,k≤m∧i=.int .i64 k∧Hid (IB wr g (upd m k fun j=>ci (eli D a*f j)))∧Bx wr w.heap.size D A D.mod.length c∧Below w.heap.size w wr) (fun i _=>m - (intOf i).toNat)
 case atStart=>exact⟨0,by omega,rfl,I,J,hB⟩
 case round =>
  clear I J hB O;obtain⟨w3,rfl⟩:=ε (wr:World);obtain⟨k,hk,rfl,I,J,T⟩:=hrel;have ay:=I.out.lt;by_cases an:k<m
  ·have aF:(0:Int)≤(k:Int):=by omega
   have aG:(k:Int)<(m:Int):=by omega
   obtain⟨b,o,rfl,hb,hc⟩:=av.at_ (by rw[Qae];exact an:k<(QaK D m f).length);rw[Qa0 D f an]at hc;have hd:=(T.cell (p:=⟨b,o+k,none⟩) hb).trans hc;have U:=fun W h=>(hM (ci (f k)) W h).out
   rw[Qam]at U;obtain⟨y,hy⟩:=ε (ci (f k));obtain⟨v,V⟩:=ε (ci (eli D a*f k));rw[←hy]at hd U;rw[←V]at U;have az:=η (U w3.drew (hr.bm T).drew);have ai:w.heap.size<w3.heap.size:=by omega
   have ad:=η (show _∧_∧_∧_ from ⟨J.cells.1,J.cells.2.1,J.cells.2.2,hd⟩);have aj:=θ hb T.size;have aH:b≠g:=by omega
   have aA:Hid (k<(upd m k fun j=>ci (eli D a*f j)).length):=by unfold Hid;rw[Qaz];exact an
   replace V:=η V;replace hy:=η hy;clear hc hd J U;go_wp2_with fail;refine wp_region_held_drew (S:=fun w'=>w'.cell? ⟨w.heap.size,0,none⟩=some (.int .i64 D.p)∧w'.cell? ⟨w.heap.size,1,none⟩=some (.int .i64 D.m)∧w'.cell? ⟨w.heap.size,2,none⟩=some (.slice A D.mod.length c)∧w'.cell? ⟨b,o+k,none⟩=some (.int .i64 y)) (by kernel_rfl) (by (try dsimp only);exact ad.out) (fun hHeld=>?_);refine tk 0 ?_;simp only[pS]
   refine tk 1 ?_;simp only[pS]
   refine tk 2 ?_;simp only[pS]
   refine tk 3 ?_;simp only[pS]
   refine tk 4 ?_;simp only[pS]
   refine tk 5 ?_;simp only[pS]
   refine tk 6 ?_;simp only[pS]
   refine tk 7 ?_;simp only[pS]
   refine rd 8 fun K hK=>?_
   go_simp;go_at_call 57;(with_reducible refine (az).out.mono ?_);rintro e w4 ⟨rfl,aa⟩;go_wp2_with fail;refine hK.out _ _ (QeV aa ai aj ad.out) fun hHeld=>?_;clear hK K;try simp only[pS]
   have al:=I.out.drew.below aa ay;have aB:=al.cell aA.out;have aC:=al.frozen k;refine tk 9 ?_;simp only[pS]
   refine rd 10 fun K hK=>?_
   go_simp;refine hK.out _ _ (QeV (B:=g) (κ.setCell (p:=⟨g,k,none⟩) ρ _) (by omega) (by omega) (QeV aa ai aj ad.out)) fun hHeld=>?_;clear hK K;try simp only[pS]
   refine δ ?_;have aD:=T.drew.trans (aa.mono T.size);have ae:=al.set_ k v;rw[V.out,QaY,←V.out]at ae;have X:=QeV (B:=g) (κ.setCell (p:=⟨g,k,none⟩) ρ (.int .i64 v)) (by omega) (by omega) (QeV aa ai aj ad.out);replace ae:=η ae;replace X:=η X;clear aB aC;go_wp2_with fail;go_roundw
   case rel=>exact⟨k+1,by omega,by go_num,ae,⟨X.out.1,X.out.2.1,X.out.2.2.1⟩,aD.setCell (p:=⟨g,k,none⟩) (Nat.le_of_lt ar) _⟩
   case measure=>simp[intOf];omega
  ·obtain rfl:k=m:=by omega
   have af:=I.out;rw[QaR]at af;replace af:=η af;go_wp2_with fail;go_ret;exact⟨g,by rw[Qae];rfl,Nat.le_of_lt ar,af.out,T⟩
theorem Qgc (D:Desc)(m:Nat)(f h:Nat→R D)(a:Int)(A A1 A2:Option Addr)(c c1 c2:Nat)(w:World)(hr:Rd w w.heap.size A (Qan D))(a1:Rd w w.heap.size A1 (QaK D m f))(a2:Rd w w.heap.size A2 (QaK D m h))(hm:m≤70000) :
  Calls Tryz.prog 99 #[.agg #[.int .i64 D.p,.int .i64 D.m,.slice A D.mod.length c],.slice A1 m c1,.int .i64 a,.slice A2 m c2] w (Qcj w.heap.size (QaK D m fun j=>f j+eli D a*h j) w):=by
 have hM:=fun z W hr=>η (Qdb D a z A c W hr)
 have a5:=fun y z W=>η (Qd7 D y z A D.mod.length c W)
 have bf:=QaC m hm;have aJ:=Bx.new w D A D.mod.length c 24;obtain⟨Y,V⟩:=ε ((w.alloc (.cells #[.int .i64 D.p,.int .i64 D.m,.slice A D.mod.length c] 24)).alloc (.cells (Array.replicate m (Value.int .i64 0)) 3));obtain⟨g,hg⟩:=ε (w.heap.size+1);have I:IB Y g (upd m 0 fun j=>ci (f j+eli D a*h j)):=by
  rw[QaP,V,hg];have:=IB.newz (w.alloc (.cells #[.int .i64 D.p,.int .i64 D.m,.slice A D.mod.length c] 24)) m;rw[World.size_alloc]at this;exact this
 have hB:Below w.heap.size w Y:=by rw[V];exact (β).alloc (by simp) _
 have O:Bx Y w.heap.size D A D.mod.length c:=by rw[V];exact aJ.below (β) (by simp)
 have ac:w.heap.size<g:=by omega
 replace V:=η V;replace I:=η I;clear aJ;go_enter Tryz.func99,Tryz.ntmps99;go_wp2_with fail;rw[←V.out];simp only[←hg];replace hg:=η hg;go_loopw [10] (fun i wr=>∃k:Nat,k≤m∧i=.int .i64 k∧Hid (IB wr g (upd m k fun j=>ci (f j+eli D a*h j)))∧Bx wr w.heap.size D A D.mod.length c∧Below w.heap.size w wr) (fun i _=>m - (intOf i).toNat)
 case atStart=>exact⟨0,by omega,rfl,I,O,hB⟩
 case round =>
  clear I O hB V;obtain⟨w3,rfl⟩:=ε (wr:World);obtain⟨k,hk,rfl,I,O,af⟩:=hrel;have bg:=I.out.lt;by_cases al:k<m
  ·have bh:(0:Int)≤(k:Int):=by omega
   have bi:(k:Int)<(m:Int):=by omega
   obtain⟨b1,o1,rfl,aV,au⟩:=a1.at_ (by rw[Qae];exact al:k<(QaK D m f).length);obtain⟨b2,o2,rfl,aX,aw⟩:=a2.at_ (by rw[Qae];exact al:k<(QaK D m h).length);rw[Qa0 D f al]at au;rw[Qa0 D h al]at aw;have aL:=(af.cell (p:=⟨b1,o1+k,none⟩) aV).trans au;have aM:=(af.cell (p:=⟨b2,o2+k,none⟩) aX).trans aw;have bj:w.heap.size<w3.heap.size:=by omega
   have bk:b1≠g:=by omega
   have bl:b2≠g:=by omega
   have bm:=θ aV af.size;have bo:=θ aX af.size;have ad:=fun W h'=>(hM (ci (h k)) W h').out
   rw[Qam]at ad;have T:=fun W=>(a5 (ci (f k)) (ci (eli D a*h k)) W).out
   rw[Qam,Qam]at T;have an:(ci (h k)=0)→f k+eli D a*h k=f k:=fun e=>by rw[Qaq.1 e,Qac,Qad]
   have aN:k<(upd m k fun j=>ci (f j+eli D a*h j)).length:=by rw[Qaz];exact al
   have az:=I.out.cell aN;have aA:=I.out.frozen k;have J:=I.out.set_ k (ci (f k));obtain⟨y1,ae⟩:=ε (ci (f k));obtain⟨y2,ah⟩:=ε (ci (h k));obtain⟨y3,ai⟩:=ε (ci (eli D a*h k));obtain⟨y4,ab⟩:=ε (ci (f k+eli D a*h k));rw[←ae]at aL T J;rw[←ah]at aM ad an;rw[←ai]at ad T;rw[←ab]at T;obtain⟨w4,aa⟩:=ε (w3.setCell ⟨g,k,none⟩ (.int .i64 y1));have aO:Below g w3 w4:=by rw[aa];exact κ.setCell (p:=⟨g,k,none⟩) ρ _
   have bp:w4.heap.size=w3.heap.size:=by rw[aa];simp[World.setCell]
   have X:=η (Qe1 aO ac (by omega) (by omega) (show _∧_∧_∧_∧_ from ⟨O.cells.1,O.cells.2.1,O.cells.2.2,aL,aM⟩));have ag:=af.trans (aO.mono (Nat.le_of_lt ac));rw[←aa]at J;have a6:Bx w4 w.heap.size D A D.mod.length c:=⟨X.out.1,X.out.2.1,X.out.2.2.1⟩;replace aa:=η aa;by_cases hz:y2=0
   ·have a7:(y2 !=0)=false:=by rw[bne_eq_false_iff_eq];exact hz
    have a8:Hid (IB w4 g (upd m (k+1) fun j=>ci (f j+eli D a*h j))):=by
     rw[ae,←an hz]at J;rw[QaY]at J;exact J
    replace J:=η J;replace ae:=η ae;replace ah:=η ah;replace ai:=η ai;replace ab:=η ab;clear hz an au aw O ad T;have aB:=X.out;obtain⟨-,-,-,p1,p2⟩:=aB;go_wp2_with fail;rw[←aa.out];go_wp2_with fail;go_roundw
    case rel=>exact⟨k+1,by omega,by go_num,a8,a6,ag⟩
    case measure=>simp[intOf];omega
   ·have a7:(y2 !=0)=true:=by rw[bne_iff_ne];exact hz
    have a9:=η (ad w4.drew (hr.bm ag).drew);replace T:=fun W=>η (T W)
    have aP:g<w4.heap.size:=by omega
    have aQ:w.heap.size<w4.heap.size:=by omega
    have aR:b1<w4.heap.size:=by omega
    have aS:b2<w4.heap.size:=by omega
    have ba:Hid (k<((upd m k fun j=>ci (f j+eli D a*h j)).set k y1).length):=by unfold Hid;rw[List.length_set];exact aN
    replace ae:=η ae;replace ah:=η ah;replace ai:=η ai;replace ab:=η ab;replace J:=η J;clear hz an au aw O ad;have aB:=X.out;obtain⟨-,-,-,p1,p2⟩:=aB;go_wp2_with fail;rw[←aa.out];go_wp2_with fail;clear az aA p1 p2;refine wp_region_held_drew (S:=fun w'=>w'.cell? ⟨w.heap.size,0,none⟩=some (.int .i64 D.p)∧w'.cell? ⟨w.heap.size,1,none⟩=some (.int .i64 D.m)∧w'.cell? ⟨w.heap.size,2,none⟩=some (.slice A D.mod.length c)∧w'.cell? ⟨b1,o1+k,none⟩=some (.int .i64 y1)∧w'.cell? ⟨b2,o2+k,none⟩=some (.int .i64 y2)) (by kernel_rfl) (by (try dsimp only);exact X.out) (fun hHeld=>?_);refine tk 0 ?_;simp only[pS]
    refine tk 1 ?_;simp only[pS]
    refine tk 2 ?_;simp only[pS]
    refine tk 3 ?_;simp only[pS]
    refine tk 4 ?_;simp only[pS]
    refine tk 5 ?_;simp only[pS]
    refine tk 6 ?_;simp only[pS]
    refine tk 7 ?_;simp only[pS]
    refine tk 8 ?_;simp only[pS]
    refine tk 9 ?_;simp only[pS]
    refine tk 10 ?_;simp only[pS]
    refine tk 11 ?_;simp only[pS]
    refine tk 12 ?_;simp only[pS]
    refine rd 13 fun K U=>?_
    go_simp;go_at_call 57;(with_reducible refine (a9).out.mono ?_);rintro e w5 ⟨rfl,ak⟩;have aT:=η (Qe1 ak aQ aR aS X.out);go_wp2_with fail;refine U.out _ _ aT.out fun hHeld=>?_;clear U K;try simp only[pS]
    have ao:w4.heap.size≤w5.heap.size:=ak.size;refine rd 14 fun K U=>?_
    go_simp;go_at_call 118;(with_reducible refine (T w5).out.mono ?_);rintro e w6 ⟨rfl,aG⟩;have aC:=η (Qe1 aG (θ aQ ao) (θ aR ao) (θ aS ao) aT.out);go_wp2_with fail;refine U.out _ _ aC.out fun hHeld=>?_;clear U K;try simp only[pS]
    have aD:=(J.out.drew.below ak aP).below aG (θ aP ao);have az:=aD.cell ba.out;have aA:=aD.frozen k;refine tk 15 ?_;simp only[pS]
    refine rd 16 fun K U=>?_
    go_simp;refine U.out _ _ (Qe1 (B:=g) (κ.setCell (p:=⟨g,k,none⟩) ρ _) ac (by omega) (by omega) aC.out) fun hHeld=>?_;clear U K;try simp only[pS]
    refine δ ?_;have aj:=Qe1 (B:=g) (κ.setCell (p:=⟨g,k,none⟩) ρ (.int .i64 y4)) ac (by omega) (by omega) aC.out;have ap:=aD.set_ k y4;rw[List.set_set,ab.out,QaY,←ab.out]at ap;have bb:=ζ ak aG;have bc:=η ((ag.drew.trans (bb.mono ag.size)).setCell (p:=⟨g,k,none⟩) (Nat.le_of_lt ac) (.int .i64 y4));replace ap:=η ap;replace aj:=η aj;clear az aA;go_wp2_with fail;go_roundw
    case rel=>exact⟨k+1,by omega,by go_num,ap,⟨aj.out.1,aj.out.2.1,aj.out.2.2.1⟩,bc.out⟩
    case measure=>simp[intOf];omega
  ·obtain rfl:k=m:=by omega
   have aq:=I.out;rw[QaR]at aq;replace aq:=η aq;go_wp2_with fail;go_ret;exact⟨g,by rw[Qae];rfl,Nat.le_of_lt ac,aq.out,af⟩
end
section
def QwX (n:Nat)(rows:Nat→List Int)(w:World)(e:Ending)(w':World):Prop:=∃v,e=.returned v∧Qc4 w' w.heap.size v n rows∧Below w.heap.size w w'∧(n=0→v=.slice none 0 0)
theorem Qkx (n:Nat)(rows:Nat→List Int)(A:Option Addr)(c:Nat)(w:World)(hr:RdM w w.heap.size A n rows)(hn:n≤1000000)(hm:∀i,i<n→(rows i).length≤1000000) :
  Calls Tryz.prog 206 #[.slice A n c] w (QwX n rows w):=by
 go_enter Tryz.func206,Tryz.ntmps206;go_wp2_with fail;go_loopw [4,3] (fun i v wr=>∃k:Nat,k≤n∧i=.int .i64 k∧Qc4 wr w.heap.size v k rows∧Below w.heap.size w wr∧Hid (k=0→v=.slice none 0 0)) (fun i _ _=>n - (intOf i).toNat)
 case atStart=>exact⟨0,by omega,rfl,Qc4.nil _ _ _,κ,fun _=>rfl⟩
 case round =>
  obtain⟨w3,rfl⟩:=ε (wr:World);obtain⟨k,hk,rfl,T,I,aw⟩:=hrel;by_cases ae:k<n
  ·have aI:(0:Int)≤(k:Int):=by omega
   have aJ:(k:Int)<(n:Int):=by omega
   obtain⟨b,o,Ak,ck,rfl,V,hc,ax,aN,aO⟩:=hr.at_ ae;have hd:=(I.cell (p:=⟨b,o+k,none⟩) V).trans hc;have ai:=ax.bm I;have aK:=hm k ae;obtain⟨Av,cv,rfl⟩:=T.size;have aj:=T;obtain⟨aR,-,ay,-⟩:=aj;obtain⟨O,U⟩:=ε (w3.alloc (.cells #[] 3));have J:Below w3.heap.size w3 O:=by rw[U];exact β
   have ak:w3.heap.size<O.heap.size:=by rw[U];simp
   have al:Own O w3.heap.size (.slice (some ⟨w3.heap.size,0,none⟩) 0 0) []:=by rw[U];exact Own.of_IB (l:=[]) (heap_alloc_new _ _) ρ (by simp[maxLen])
   have am:=(J.cell (p:=⟨b,o+k,none⟩) (θ V I.size)).trans hd;have an:=ai.bm J;have ao:([]:List Int).length+(rows k).length≤1000000000:=by simp;omega
   subst U;have aL:b<w3.heap.size:=θ V I.size;clear hc am;go_wp2_with (first
    |(at_builtin;refine Qda rfl (.tmp 12) (.tmp 16) rfl w3.heap.size _ [] _ Ak ck (rows k) al an rfl rfl rfl ao (Nat.le_of_lt ak) ?_;intro v1 W2 Y aa aT aU;rw[List.nil_append]at Y;obtain⟨A1,c1,rfl,az,aA,ac⟩:=Y.form;have ap:=Own.capM Y;have aq:=T.below (J.trans aa) ρ;obtain⟨hs,e1,X,e3⟩:=aq)
    |(at_builtin;refine Qgw rfl (.tmp 11) (.tmp 18) rfl w.heap.size _ hs _ rfl X rfl rfl rfl (by rw[e1];omega) (τ I.size (J.trans aa).size) ?_;intro v3 W3 aD aE aF aG))
   have ar:=Qc4.snoc e1 e3 aA az ap (fun aX a e=>⟨fun X=>by have h1:=(ac a e).1;have h2:=(World.ownsRow.lt ay _ X).2;omega,by have h1:=(ac a e).1;have h2:=I.size;omega⟩) aD aF aG;go_roundw
   case rel=>exact⟨k+1,by omega,by go_num,ar,I.trans (((J.trans aa).mono I.size).trans (aE.mono ρ)),fun h=>absurd h (by omega)⟩
   case measure=>simp[intOf];omega
  ·obtain rfl:k=n:=by omega
   go_wp2_with fail;go_ret;exact⟨_,rfl,T,I,aw.out⟩
end
end Go.Proofs
