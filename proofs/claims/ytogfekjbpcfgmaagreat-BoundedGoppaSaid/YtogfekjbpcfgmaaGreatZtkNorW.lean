/- The reference's value of a polynomial. -/
import Derived.Test.YtogfekjbpcfgmaaGreatZtkGrsB
import Derived.Test.YtogfekjbpcfgmaaGreatZtkSysW
set_option maxRecDepth 100000
set_option maxHeartbeats 16000000
set_option linter.unusedVariables false
set_option linter.unusedSimpArgs false
namespace Go.Proofs
open Go.RowKit Cw
section
theorem QdN (D:Desc)(l:List Int)(x:Int)(A A1:Option Addr)(c c1:Nat)(w:World)(I:Rd w w.heap.size A (Qan D))(aB:Rd w w.heap.size A1 l)(hl:l.length≤maxLen) :
  Calls Tryz.prog 72 #[.agg #[.int .i64 D.p,.int .i64 D.m,.slice A D.mod.length c],.slice A1 l.length c1,.int .i64 x] w fun e w'=>e=.returned (.int .i64 (ci (QaW D l (eli D x))))∧Below w.heap.size w w':=by
 unfold maxLen at hl;have hM:=fun y z W I=>η (Qdb D y z A c W I)
 have hA:=fun y z W=>η (Qd7 D y z A D.mod.length c W)
 have aE:=Bx.new w D A D.mod.length c 24;have aF:Below w.heap.size w (w.alloc (.cells #[.int .i64 D.p,.int .i64 D.m,.slice A D.mod.length c] 24)):=β;obtain⟨u,O⟩:=ε (eli D x);rw[←O];replace O:=η O;go_enter Tryz.func72,Tryz.ntmps72;go_wp2_with fail;go_loopw [9,7,8] (fun i o p wr=>∃k:Nat,k≤l.length∧i=.int .i64 k∧o=.int .i64 (ci (Qat k fun i=>eli D (l[i]?.getD 0)*pw u i))∧p=.int .i64 (ci (pw u k))∧Bx wr w.heap.size D A D.mod.length c∧Below w.heap.size w wr∧w.heap.size<wr.heap.size) (fun i _ _ _=>l.length - (intOf i).toNat)
 case atStart=>exact⟨0,by omega,rfl,by rw[QaG,QaF],by rw[QbK,Qei],aE,aF,by simp⟩
 case round =>
  obtain⟨k,hk,rfl,rfl,rfl,ab,J,ah⟩:=hrel;by_cases aR:k<l.length
  ·have aS:(0:Int)≤(k:Int):=by omega
   have aT:(k:Int)<(l.length:Int):=by omega
   obtain⟨b,o,rfl,hb,hc⟩:=aB.at_ aR;have af:=(J.cell (p:=⟨b,o+k,none⟩) hb).trans hc;obtain⟨y,hy⟩:=ε (l[k]?.getD 0);rw[←hy]at af;have T:=fun W I=>(hM y (ci (pw u k)) W I).out
   rw[Qam]at T;replace T:=fun W I=>η (T W I)
   have U:=fun W=>(hA (ci (Qat k fun i=>eli D (l[i]?.getD 0)*pw u i)) (ci (eli D y*pw u k)) W).out
   have hs:Qat k (fun i=>eli D (l[i]?.getD 0)*pw u i)+eli D y*pw u k=Qat (k+1) (fun i=>eli D (l[i]?.getD 0)*pw u i):=by rw[Qaj,hy]
   rw[Qam,Qam,hs]at U;replace U:=fun W=>η (U W)
   have V:=fun W I=>(hM (ci (pw u k)) x W I).out
   rw[Qam,←O.out,←Qbi]at V;replace V:=fun W I=>η (V W I)
   have aG:=I.bm J;have ap:b<wr.heap.size:=θ hb J.size;have aq:Hid (_∧_∧_∧wr.cell? ⟨b,o+k,none⟩=_):=η (show _∧_∧_∧_ from ⟨ab.cells.1,ab.cells.2.1,ab.cells.2.2,af⟩);have X:∀ {W w1:World} {v0 v1 v2 v3:Value},Below W.heap.size W w1→w.heap.size<W.heap.size→b<W.heap.size→(W.cell? ⟨w.heap.size,0,none⟩=some v0∧W.cell? ⟨w.heap.size,1,none⟩=some v1∧W.cell? ⟨w.heap.size,2,none⟩=some v2∧W.cell? ⟨b,o+k,none⟩=some v3) →
     w1.cell? ⟨w.heap.size,0,none⟩=some v0∧w1.cell? ⟨w.heap.size,1,none⟩=some v1∧w1.cell? ⟨w.heap.size,2,none⟩=some v2∧w1.cell? ⟨b,o+k,none⟩=some v3:=fun h1 h2 h3 h4 =>
    have:=Qau h1 h2 ⟨h4.1,h4.2.1,h4.2.2.1⟩
    ⟨this.1,this.2.1,this.2.2,(h1.cell (p:=⟨b,o+k,none⟩) h3).trans h4.2.2.2⟩
   replace X:=fun {W w1:World} {v0 v1 v2 v3:Value} a1 a2 a3 a4=>η (@X W w1 v0 v1 v2 v3 a1 a2 a3 a4)
   clear hc hs hy ab af;go_wp2_with fail;go_region_held3 (fun w'=>w'.cell? ⟨w.heap.size,0,none⟩=some (.int .i64 D.p)∧w'.cell? ⟨w.heap.size,1,none⟩=some (.int .i64 D.m)∧w'.cell? ⟨w.heap.size,2,none⟩=some (.slice A D.mod.length c)∧w'.cell? ⟨b,o+k,none⟩=some (.int .i64 y)) (first |exact aq.out |exact ar.out |exact Y.out)
    (first
     |(go_at_call 57;(with_reducible refine (T _ aG.drew).out.mono ?_);rintro e w1 ⟨rfl,aj⟩;have ar:=X aj ah ap aq.out;have ag:wr.heap.size≤w1.heap.size:=aj.size;have au:=(J.drew).trans (aj.mono J.size))
     |(go_at_call 118;(with_reducible refine (U _).out.mono ?_);rintro e w2 ⟨rfl,ak⟩;have Y:=X ak (θ ah ag) (θ ap ag) ar.out;have aa:=ζ au ak))
   have av:w.heap.size<w2.heap.size:=θ (θ ah ag) ak.size;have aw:Bx w2 w.heap.size D A D.mod.length c:=⟨Y.out.1,Y.out.2.1,Y.out.2.2.1⟩;have aH:=I.bm aa;obtain⟨q0,q1,q2⟩:=aw.cells;go_wp2_with fail;(with_reducible refine (V _ aH).out.mono ?_);rintro e w3 ⟨rfl,al⟩;clear q0 q1 q2;go_wp2_with fail;go_roundw
   case rel=>exact⟨k+1,by omega,by go_num,rfl,rfl,aw.below al av,ζ aa al,θ av al.size⟩
   case measure=>simp[intOf];omega
  ·obtain rfl:k=l.length:=by omega
   go_wp2_with fail;go_ret;exact⟨rfl,J⟩
end
section
def cfR (D:Desc)(p:List Int):Nat→R D:=fun i=>eli D (p[i]?.getD 0)
def cfI (D:Desc)(p:List Int):Nat→Int:=fun i=>ci (cfR D p i)
theorem Qao (D:Desc){p:List Int} {i:Nat} (h:p.length≤i):cfR D p i=0:=by
 unfold cfR;rw[List.getElem?_eq_none h];exact QbC
theorem Qua (D:Desc){p:List Int} {i:Nat} (h:p.length≤i):cfI D p i=0:=by
 unfold cfI;rw[Qao D h,QaF]
theorem QdC {D:Desc} (f:Nat→R D)(n:Nat)(h:∀i,n≤i→f i=0):cfR D (Qep (fun i=>ci (f i)) n)=f:=funext fun i=>by
 unfold cfR;by_cases I:i<n
 ·rw[Qq2 _ I,Qam]
 ·rw[Qq3 _ (by omega),h i (by omega)];exact QbC
def QaD (D:Desc)(p:List Int):List Int:=Qep (cfI D p) p.length
theorem Qa4 (D:Desc)(p:List Int):(QaD D p).length≤p.length:=by unfold QaD;rw[QaH];exact QbY _ _
theorem Qbe (D:Desc)(p:List Int):cfR D (QaD D p)=cfR D p:=QdC (cfR D p) p.length fun _ h=>Qao D h
theorem QaN (D:Desc)(p:List Int)(A A1:Option Addr)(c c1:Nat)(w:World)(az:Rd w w.heap.size A1 p)(hl:p.length≤70000) :
    Calls Tryz.prog 134 #[.agg #[.int .i64 D.p,.int .i64 D.m,.slice A D.mod.length c],.slice A1 p.length c1] w (Qcj w.heap.size (QaD D p) w):=by
  have hI:=fun x W=>η (Qka D x A D.mod.length c W)
  have aA:=Bx.new w D A D.mod.length c 24;have aB:Below w.heap.size w (w.alloc (.cells #[.int .i64 D.p,.int .i64 D.m,.slice A D.mod.length c] 24)):=β;obtain⟨f,hf⟩:=ε (cfI D p);have ak:∀k,ci (eli D (p[k]?.getD 0))=f k:=fun k=>by rw[hf];rfl
  unfold QaD;rw[←hf];replace hf:=η hf;replace ak:=η ak;go_enter Tryz.func134,Tryz.ntmps134;go_wp2_with fail;go_loopw [6,5] (fun i n wr=>∃k:Nat,k≤p.length∧i=.int .i64 k∧n=.int .i64 (QeY f k)∧Bx wr w.heap.size D A D.mod.length c∧Below w.heap.size w wr∧w.heap.size<wr.heap.size) (fun i _ _=>p.length - (intOf i).toNat)
  case atStart=>exact⟨0,by omega,rfl,rfl,aA,aB,by simp⟩
  case round =>
    clear aA aB;obtain⟨X,rfl⟩:=ε (wr:World);obtain⟨k,hk,rfl,rfl,J,I,ao⟩:=hrel;by_cases ax:k<p.length
    · have aG:(0:Int)≤(k:Int):=by omega
      have aH:(k:Int)<(p.length:Int):=by omega
      obtain⟨b,o,rfl,hb,hc⟩:=az.at_ ax;have hd:=(I.cell (p:=⟨b,o+k,none⟩) hb).trans hc;have O:=fun W=>(hI (p[k]?.getD 0) W).out
      rw[ak.out]at O;replace O:=fun W=>η (O W)
      generalize p[k]?.getD 0=y at *;have T:=η (show _∧_∧_∧_ from ⟨J.cells.1,J.cells.2.1,J.cells.2.2,hd⟩);have ad:=θ hb I.size;by_cases hz:f k=0
      all_goals
       first
       |(have hs:=η (Qi3 hz);have aI:(f k !=0)=false:=by rw[bne_eq_false_iff_eq];exact hz)
       |(have hs:=η (Qi4 hz);have aI:(f k !=0)=true:=by rw[bne_iff_ne];exact hz)
       clear hc hd J hz;go_wp2_with fail;go_region_held3 (fun w'=>w'.cell? ⟨w.heap.size,0,none⟩=some (.int .i64 D.p)∧w'.cell? ⟨w.heap.size,1,none⟩=some (.int .i64 D.m)∧w'.cell? ⟨w.heap.size,2,none⟩=some (.slice A D.mod.length c)∧w'.cell? ⟨b,o+k,none⟩=some (.int .i64 y)) (first |exact T.out |exact am.out)
         (first
           |(go_at_call 49;(with_reducible refine (O _).out.mono ?_);rintro e w3 ⟨rfl,aw⟩;have am:=η (QeV aw ao ad T.out)))
       go_wp2_with fail;go_roundw
       case rel=>exact⟨k+1,by omega,by go_num,by first |(rw[hs.out];done) |(rw[hs.out];go_num),⟨am.out.1,am.out.2.1,am.out.2.2.1⟩,I.drew.trans (aw.mono I.size),θ ao aw.size⟩
       case measure=>simp[intOf];omega
    · obtain rfl:k=p.length:=by omega
      have aJ:=QbY f p.length;obtain⟨N,hN⟩:=ε (QeY f p.length);rw[←hN]at aJ ⊢;have aU:=QaC N (by omega);have aC:=IB.newz X N;obtain⟨g,hg⟩:=ε (X.heap.size);obtain⟨Y,V⟩:=ε (X.alloc (.cells (Array.replicate N (Value.int .i64 0)) 3));have U:IB Y g (upd N 0 f):=by rw[QaP,V,hg];exact aC
      have ar:Below X.heap.size X Y:=by rw[V];exact β
      have aK:g<Y.heap.size:=by rw[V,hg];simp
      have aD:=J.below ar ao;have aE:=ζ I ar;have aL:w.heap.size<g:=by omega
      have aF:w.heap.size≤g:=Nat.le_of_lt aL;replace hN:=η hN;replace V:=η V;replace hg:=η hg;clear aC J I ar;go_wp2_with fail;rw[←V.out];rw[←hg.out];clear ao V hg;go_loopw [8] (fun i wr=>∃k:Nat,k≤N∧i=.int .i64 k∧IB wr g (upd N k f)∧Bx wr w.heap.size D A D.mod.length c∧Below w.heap.size w wr) (fun i _=>N - (intOf i).toNat)
      case atStart=>exact⟨0,by omega,rfl,U,aD,aE⟩
      case round =>
        clear U aD aE aK;obtain⟨w3,rfl⟩:=ε (wr:World);obtain⟨k,hk,rfl,U,J,I⟩:=hrel;have aM:=U.lt;by_cases ax:k<N
        · have aG:(0:Int)≤(k:Int):=by omega
          have aH:(k:Int)<(p.length:Int):=by omega
          have aV:(k:Int)<(N:Int):=by omega
          obtain⟨b,o,rfl,hb,hc⟩:=az.at_ (by omega:k<p.length);have hd:=(I.cell (p:=⟨b,o+k,none⟩) hb).trans hc;have O:=fun W=>(hI (p[k]?.getD 0) W).out
          rw[ak.out]at O;obtain⟨v,hv⟩:=ε (f k);rw[←hv]at O;have aN:=η (O w3.drew);generalize p[k]?.getD 0=y at *;have au:w.heap.size<w3.heap.size:=by omega
          have T:=η (show _∧_∧_∧_ from ⟨J.cells.1,J.cells.2.1,J.cells.2.2,hd⟩);have ad:=θ hb I.size;have aW:b≠g:=by omega
          have aO:Hid (k<(upd N k f).length):=by unfold Hid;rw[Qaz];exact ax
          replace hv:=η hv;clear hc hd J O hI;go_wp2_with fail;refine wp_region_held_drew (S:=fun w'=>w'.cell? ⟨w.heap.size,0,none⟩=some (.int .i64 D.p)∧w'.cell? ⟨w.heap.size,1,none⟩=some (.int .i64 D.m)∧w'.cell? ⟨w.heap.size,2,none⟩=some (.slice A D.mod.length c)∧w'.cell? ⟨b,o+k,none⟩=some (.int .i64 y)) (by kernel_rfl) (by (try dsimp only);exact T.out) (fun hHeld=>?_);refine tk 0 ?_;simp only[pS]
          refine tk 1 ?_;simp only[pS]
          refine tk 2 ?_;simp only[pS]
          refine tk 3 ?_;simp only[pS]
          refine tk 4 ?_;simp only[pS]
          refine tk 5 ?_;simp only[pS]
          refine tk 6 ?_;simp only[pS]
          refine rd 7 fun K hK=>?_
          go_simp;go_at_call 49;(with_reducible refine (aN).out.mono ?_);rintro e w4 ⟨rfl,ab⟩;go_wp2_with fail;refine hK.out _ _ (QeV ab au ad T.out) fun hHeld=>?_;clear hK K;try simp only[pS]
          have av:=U.drew.below ab aM;have aP:=av.cell aO.out;have aQ:=av.frozen k;refine tk 8 ?_;simp only[pS]
          refine rd 9 fun K hK=>?_
          go_simp;refine hK.out _ _ (QeV (B:=g) (κ.setCell (p:=⟨g,k,none⟩) ρ _) (by omega) (by omega) (QeV ab au ad T.out)) fun hHeld=>?_;clear hK K;try simp only[pS]
          refine δ ?_;have aR:=I.drew.trans (ab.mono I.size);have aX:w3.heap.size≤w4.heap.size:=ab.size;have an:=av.set_ k v;rw[hv.out,QaY,←hv.out]at an;have ag:=QeV (B:=g) (κ.setCell (p:=⟨g,k,none⟩) ρ (.int .i64 v)) (by omega) (by omega) (QeV ab au ad T.out);replace an:=η an;replace ag:=η ag;clear aP aQ;go_wp2_with fail;go_roundw
          case rel=>exact⟨k+1,by omega,by go_num,an,⟨ag.out.1,ag.out.2.1,ag.out.2.2.1⟩,aR.setCell (p:=⟨g,k,none⟩) aF _⟩
          case measure=>simp[intOf];omega
        · obtain rfl:k=N:=by omega
          rw[QaR]at U;go_wp2_with fail;go_ret;exact⟨g,by rw[QaH,←hN.out];rfl,aF,by unfold Qep;rw[←hN.out];exact U,I⟩
end
section
theorem QdO {B b I O J T:Nat} {W w1:World} {V v1 v2 X Y v5 v6 v7:Value} (U:Below B W w1)(ad:b<B)(h1:I<B)(h2:J<B)
  (h:W.cell? ⟨b,0,none⟩=some V∧W.cell? ⟨b,1,none⟩=some v1∧W.cell? ⟨b,2,none⟩=some v2∧W.cell? ⟨b,3,none⟩=some X∧W.cell? ⟨b,4,none⟩=some Y∧W.cell? ⟨b,5,none⟩=some v5∧W.cell? ⟨I,O,none⟩=some v6∧W.cell? ⟨J,T,none⟩=some v7) :
  w1.cell? ⟨b,0,none⟩=some V∧w1.cell? ⟨b,1,none⟩=some v1∧w1.cell? ⟨b,2,none⟩=some v2∧w1.cell? ⟨b,3,none⟩=some X∧w1.cell? ⟨b,4,none⟩=some Y∧w1.cell? ⟨b,5,none⟩=some v5∧w1.cell? ⟨I,O,none⟩=some v6∧w1.cell? ⟨J,T,none⟩=some v7 :=
 have k:=QbS U ad ⟨h.1,h.2.1,h.2.2.1,h.2.2.2.1,h.2.2.2.2.1,h.2.2.2.2.2.1⟩
 ⟨k.1,k.2.1,k.2.2.1,k.2.2.2.1,k.2.2.2.2.1,k.2.2.2.2.2,(U.cell (p:=⟨I,O,none⟩) h1).trans h.2.2.2.2.2.2.1,(U.cell (p:=⟨J,T,none⟩) h2).trans h.2.2.2.2.2.2.2⟩
end
section
def elL (F:FD)(l:List Int):Nat→R F.z:=fun j=>eli F.z (l[j]?.getD 0)
def QwM (F:FD)(l:List Int)(d:Nat):Prop:=l.length=F.m / d∧QjN d (F.m / d) (elL F l)
open Classical in
noncomputable def QkZ (F:FD)(l:List Int)(d:Int):Int:=if Qia F.m d=true then (if QwM F l d.toNat then 0 else 9) else 6
theorem Qub {F:FD} {l:List Int} {d:Int} (h:Qia F.m d=false):QkZ F l d=6:=by unfold QkZ;rw[if_neg (by rw[h];decide)]
theorem QpD {F:FD} {l:List Int} {d:Nat} (h:Qia F.m d=true)(I:QwM F l d):QkZ F l d=0:=by unfold QkZ;rw[if_pos h,if_pos (by rw[Int.toNat_natCast];exact I)]
theorem Qmv {F:FD} {l:List Int} {d:Nat} (h:Qia F.m d=true)(I:¬ QwM F l d):QkZ F l d=9:=by unfold QkZ;rw[if_pos h,if_neg (by rw[Int.toNat_natCast];exact I)]
theorem Qxf (F:FD):FF.M (R F.z)=F.m:=rfl
theorem QnD (F:FD)(l:List Int)(d:Int)(Al:Option Addr)(cl gf:Nat)(w:World)(hg:GF w w.heap.size gf F)(aG:Rd w w.heap.size Al l)(hl:l.length≤maxLen) :
  Calls Tryz.prog 112 #[.pointer (some ⟨gf,0,none⟩),.slice Al l.length cl,.int .i64 d] w fun e w'=>e=.returned (.int .i64 (QkZ F l d))∧Below w.heap.size w w':=by
 unfold maxLen at hl;have Y:=η (QcN F d gf w hg);by_cases U:Qia F.m d=true
 ·rw[U]at Y;obtain⟨I,rfl,ai,ar,au⟩:=QeQ U;have aw:=F.m8;have ax:I≤8:=by omega
  have hE:=fun W h=>η (Qhv F 0 I gf W h ai ax)
  obtain⟨n,X⟩:=ε (F.m / I);have aR:n≤8:=by rw[X];exact τ (Nat.div_le_self _ _) F.m8
  have aI:1≤n:=by rw[X];exact Nat.div_pos ar ai
  have ag:I*n=FF.M (R F.z):=by rw[X,Qxf];exact Nat.mul_div_cancel' au
  have aa:=Qmv (l:=l) U;have ab:=QpD (l:=l) U;unfold QwM at aa ab;rw[←X]at hE aa ab;by_cases O:l.length=n
  ·have hS:=fun A c W a b e=>Qlt F n (n+1) I rfl ai ax X.symm l O (fun i=>QaO (I*i) (eli F.z 0)) Al A cl c gf W a b e
   have hV:=fun M g L W a b c d=>QnB F n (n+1) rfl M g n gf L W a b c d (by omega)
   have hq:((l.length:Int) !=(n:Int))=false:=by rw[O];simp
   have h9:¬ QjN I n (elL F l)→QkZ F l I=9:=fun h=>aa fun e=>h e.2
   have h0:QjN I n (elL F l)→QkZ F l I=0:=fun h=>ab ⟨O,h⟩
   replace h9:=η h9;replace h0:=η h0;replace O:=η O;replace ag:=η ag;clear aa ab U au ar X aw;go_enter Tryz.func112,Tryz.ntmps112;go_wp2_with fail;(with_reducible refine Y.out.mono ?_);rintro e w1 ⟨rfl,J⟩;have am:=hg.bm J;have ah:=hE w1 am;go_wp2_with fail;(with_reducible refine ah.out.mono ?_);rintro e w2 ⟨g2,rfl,aK,aD,aj⟩;have T:=ζ J aj;have aA:=hg.bm T;have an:=η (hS (some ⟨g2,0,none⟩) n w2 aA (aG.bm T) aD.rd);clear hS hE ah Y J aj;have ao:=an;rw[←O.out]at an;go_wp2_with fail;have aB:=ao.out;rw[←O.out]at aB;rw[O.out];(with_reducible refine ao.out.mono ?_);rintro e w3 ⟨g3,rfl,aM,aN,ac⟩;have aS:=ζ T ac;have ap:=η (hV _ g3 w2.heap.size w3 (aA.below ac) aN ac.size aM);clear hV an ao aB;go_wp2_with fail;(with_reducible refine ap.out.mono ?_);rintro e w4 ⟨aE,⟨rfl,x,⟨j,hj,aF⟩,hk⟩ |⟨b5,x,rfl,hb,aP,hs,hk⟩⟩
   ·have V:Hid (QkZ F l I=9):=h9.out fun h=>aF (QnA ag.out ai aI h hk j hj)
    have aq:=T.trans ((ac.trans aE).mono T.size);clear hk aF ap;go_wp2_with fail;go_ret;exact⟨by rw[V.out];rfl,aq⟩
   ·have V:Hid (QkZ F l I=0):=h0.out (Qnz hk);have aq:=T.trans ((ac.trans aE).mono T.size);clear hk hs aP ap;go_wp2_with fail;go_ret;exact⟨by rw[V.out];rfl,aq⟩
  ·have hq:((l.length:Int) !=(n:Int))=true:=by rw[bne_iff_ne];omega
   have V:Hid (QkZ F l I=9):=aa fun e=>O e.1
   clear aa ab U au ar X aw O ag;go_enter Tryz.func112,Tryz.ntmps112;go_wp2_with fail;(with_reducible refine Y.out.mono ?_);rintro e w1 ⟨rfl,J⟩;have am:=hg.bm J;have ah:=hE w1 am;go_wp2_with fail;(with_reducible refine ah.out.mono ?_);rintro e w2 ⟨g2,rfl,aK,aD,aj⟩;go_wp2_with fail;go_ret;exact⟨by rw[V.out];rfl,ζ J aj⟩
 ·rw[Bool.not_eq_true]at U;have V:=η (Qub (l:=l) U);rw[U]at Y;clear U;go_enter Tryz.func112,Tryz.ntmps112;go_wp2_with fail;(with_reducible refine Y.out.mono ?_);rintro e w1 ⟨rfl,J⟩;go_wp2_with fail;go_ret;exact⟨by rw[V.out];rfl,J⟩
end
section
theorem Qkn (F:FD)(l:List Int)(d:Int)(I:Option Addr)(cl gf:Nat)(w:World)(J:GF w w.heap.size gf F)(O:Rd w w.heap.size I l)(T:l.length≤maxLen) :
  Calls Tryz.prog 53 #[.pointer (some ⟨gf,0,none⟩),.slice I l.length cl,.int .i64 d] w fun e w'=>e=.returned (.bool (QkZ F l d==0))∧Below w.heap.size w w':=by
 have U:=η (QnD F l d I cl gf w J O T);go_enter Tryz.func53,Tryz.ntmps53;go_wp2_with fail;(with_reducible refine U.out.mono ?_);rintro e w1 ⟨rfl,V⟩;go_wp2_with fail;go_ret;exact⟨rfl,V⟩
end
section
open Go.Shelf
def Qmw (F:FD)(d n:Nat)(x:Int):Prop:=QjN d n fun i=>QaO (d*i) (eli F.z x)
def Qhx (F:FD)(d n k:Nat):Prop:=k<F.q∧Qmw F d n k∧∀j,j<k→¬ Qmw F d n j
theorem QrE (F:FD){d:Nat} (O:d∣F.m)(I:1≤d):∃k,Qhx F d (F.m / d) k:=by
 obtain⟨u,T⟩:=Qpw F O I;have h:∀n,n≤QaA u→(∃k,Qhx F d (F.m / d) k)∨∀j,j<n→¬ Qmw F d (F.m / d) j:=fun n=>by
  induction n with
  |zero=>exact fun _=>.inr fun j J=>absurd J (by omega)
  |succ n ih =>
   intro V;rcases ih (by omega) with I |I
   ·exact .inl I
   ·by_cases e:Qmw F d (F.m / d) n
    ·exact .inl ⟨n,by have:=QaM u;omega,e,I⟩
    ·refine .inr fun j J=>?_
     rcases (by omega:j<n∨j=n) with U |rfl
     ·exact I j U
     ·exact e
 rcases h (QaA u) ρ with I |I
 ·exact I
 ·exact⟨QaA u,QaM u,by unfold Qmw;rw[Qcy (QaM u),QaT];exact T,I⟩
theorem Qhx.uniq {F:FD} {d n k I:Nat} (J:Qhx F d n k)(O:Qhx F d n I):k=I:=by
 rcases Nat.lt_trichotomy k I with h |h |h
 ·exact absurd J.2.1 (O.2.2 k h)
 ·exact h
 ·exact absurd O.2.1 (J.2.2 I h)
theorem Qhx.pos {F:FD} {d n k:Nat} (h:Qhx F d n k)(O:1≤n):1≤k:=Nat.pos_of_ne_zero fun e=>by
 have I:=h.2.1;rw[e]at I;unfold Qmw at I;have J:=I (fun _=>1) (fun _ _=>Qbq.one d) (Qag fun i _=>by
  show (1:R F.z)*QaO (d*i) (eli F.z ((0:Nat):Int))=0
  rw[show eli F.z ((0:Nat):Int)=0 from QbC,Qb5,Qac]) 0 (by omega)
 exact QbD J
theorem Qko (F:FD)(d n:Nat)(u:R F.z){j:Nat} (I:j<n):elL F (QcG d u n) j=QaO (d*j) u:=by
 unfold elL QcG;rw[Qas _ I,Qam]
theorem QjN.congr7 {F:Type} [FF F] {d n:Nat} {l l':Nat→F} (h:QjN d n l)(I:∀j,j<n→l j=l' j):QjN d n l':=fun c J hz=>h c J (by rw[←hz];exact Qaa fun j O=>by rw[I j O])
theorem Quc (F:FD){d:Nat} (J:Qia F.m d=true)(x:Int):(Qmw F d (F.m / d) x→(QkZ F (QcG d (eli F.z x) (F.m / d)) d==0)=true)∧(¬ Qmw F d (F.m / d) x→(QkZ F (QcG d (eli F.z x) (F.m / d)) d==0)=false):=by
 have T:(QcG d (eli F.z x) (F.m / d)).length=F.m / d:=Qca _ _ _;have O:Qmw F d (F.m / d) x↔QjN d (F.m / d) (elL F (QcG d (eli F.z x) (F.m / d))) :=
  ⟨fun h=>QjN.congr7 h fun j I=>(Qko F d _ _ I).symm,fun h=>QjN.congr7 h fun j I=>Qko F d _ _ I⟩
 refine⟨fun h=>?_,fun h=>?_⟩
 ·rw[QpD J ⟨T,O.1 h⟩];rfl
 ·rw[Qmv J (fun e=>h (O.2 e.2))];rfl
theorem QnE {p:List Int} {x:Int} {q:Nat} (h:p ++ [x] <+: upI q):∃k:Nat,k<q∧x=(k:Int)∧∀j:Nat,j<k→(j:Int)∈p:=by
 obtain⟨t,J⟩:=h;have U:(upI q).length=q:=by unfold upI;simp
 have O:∀i,i<q→(upI q)[i]?=some (i:Int):=fun i V=>by unfold upI;rw[List.getElem?_map,List.getElem?_range V];rfl
 have T:p.length<q:=by rw[←U,←J];simp
 refine⟨p.length,T,?_,fun j X=>?_⟩
 ·have I:=O p.length T;rw[←J,List.append_assoc,List.getElem?_append_right ρ,Nat.sub_self]at I
  simpa using I
 ·have I:=O j (by omega);rw[←J,List.append_assoc,List.getElem?_append_left X]at I;exact List.mem_of_getElem? I
end
section
open Go.Shelf
theorem Qgy {β:Type} {B:Nat} (b:Nat)(T:b<B)(f:β→Value):OwnFrom B (fun (s:β) W=>W.cell? ⟨b,0,none⟩=some (f s)) :=
 fun _ _ _ _ I J O=>J.cell I (fun e=>by have h:B≤b:=(O _ e.symm).1;omega)
theorem Qlu (D:FD)(d n k0:Nat)(g:Nat)(w:World)(hg:GF w w.heap.size g D)(aA:1≤d)(aB:d∣D.m)(hn:D.m / d=n)(am:Qhx D d n k0) :
  Calls Tryz.prog 218 #[.pointer (some ⟨g,0,none⟩),.int .i64 d] w fun e w'=>e=.returned (.tuple #[.int .i64 k0,.int .i64 0])∧Below w.heap.size w w':=by
 have ak:=Qpy aA aB D.m1;have a0:d≤8:=τ (Nat.le_of_dvd D.m1 aB) D.m8;have bx:n≤8:=by rw[←hn];exact τ (Nat.div_le_self _ _) D.m8
 have hI:=fun W hg=>QcN D d g W hg
 rw[ak]at hI;have ao:=fun x W h=>Qhv D x d g W h aA a0
 have aC:=fun x Al cl W a b=>Qkn D (QcG d (eli D.z x) n) d Al cl g W a b (by rw[Qca];unfold maxLen;omega)
 have ap:=fun x=>Quc D ak x
 rw[hn]at ao ap;obtain⟨O,J⟩:=ε ((((w.alloc (.cells #[.pointer (some ⟨g,0,none⟩)] 66)).alloc (.cells #[.int .i64 d] 3)).alloc (.cells #[.int .i64 0] 3)).alloc (.cells #[.int .i64 0] 29));have hB:Below w.heap.size w O:=by rw[J];exact (((β).alloc (by simp) _).alloc (by simp;omega) _).alloc (by simp;omega) _
 have aD:=η (hI O (hg.bm hB));have X:O.heap.size=w.heap.size+4:=by rw[J];simp
 have c0:O.cell? ⟨w.heap.size,0,none⟩=some (.pointer (some ⟨g,0,none⟩)):=by rw[J];simp[go_sem]
 have c1:O.cell? ⟨w.heap.size+1,0,none⟩=some (.int .i64 d):=by rw[J];simp[go_sem]
 have c2:O.cell? ⟨w.heap.size+2,0,none⟩=some (.int .i64 0):=by rw[J];simp[go_sem]
 have c3:O.cell? ⟨w.heap.size+3,0,none⟩=some (.int .i64 0):=by rw[J];simp[go_sem]
 have f2:O.frozen? ⟨w.heap.size+2,0,none⟩=false:=by rw[J];simp[go_sem]
 have f3:O.frozen? ⟨w.heap.size+3,0,none⟩=false:=by rw[J];simp[go_sem]
 replace J:=η J;replace hn:=η hn;replace ak:=η ak;replace X:=η X;clear hI;refine (callsIn_wide (n:=3)).1 ?_;refine callsIn_of_wp_marks Tryz.func218 rfl trivial ?_ rfl;simp only[Tryz.ntmps218,List.size_toArray,List.length_cons,List.length_nil,Nat.reduceAdd,Nat.reduceSub,Array.replicate_succ,Array.replicate_zero,List.push_toArray,List.append_toArray,List.nil_append,List.cons_append];have bz:Tryz.prog.follows .mixedOrders=true:=by kernel_rfl
 gi_wp2_with (fail)
 rw[←J.out];refine⟨trivial,(callsIn_wide.2 aD.out).mono ?_⟩;rintro e w1 ⟨rfl,aa⟩;have bA:w.heap.size+3<w1.heap.size:=by have:=aa.size;have:=X.out;omega
 have d0:=(aa.cell (p:=⟨w.heap.size,0,none⟩) (by have:=X.out;show w.heap.size<_;omega)).trans c0;have d1:=(aa.cell (p:=⟨w.heap.size+1,0,none⟩) (by have:=X.out;show w.heap.size+1<_;omega)).trans c1;have d2:=(aa.cell (p:=⟨w.heap.size+2,0,none⟩) (by have:=X.out;show w.heap.size+2<_;omega)).trans c2;have d3:=(aa.cell (p:=⟨w.heap.size+3,0,none⟩) (by have:=X.out;show w.heap.size+3<_;omega)).trans c3;have e2:=(aa.frozen (p:=⟨w.heap.size+2,0,none⟩) (by have:=X.out;show w.heap.size+2<_;omega)).trans f2;have e3:=(aa.frozen (p:=⟨w.heap.size+3,0,none⟩) (by have:=X.out;show w.heap.size+3<_;omega)).trans f3;have aH:=ζ hB aa;have aI:=hg.below aH;have bB:g<w.heap.size:=hg.lt;clear c0 c1 c2 c3 f2 f3 aD aa hB
 gi_wp2_with (fail)
 refine⟨trivial,(Qhw Fence.wide _ trivial rfl g _).mono ?_⟩;rintro e w2 ⟨rfl,rfl⟩;have bN:=Boxed.new w1 66 (.pointer (some ⟨g,0,none⟩));have aJ:Below w1.heap.size w1 (w1.alloc (.cells #[.pointer (some ⟨g,0,none⟩)] 66)):=(Below.refl _ w1).alloc ρ _
 gi_wp2_with (fail)
 refine wpIn_rangeFunc_ownG rfl (by omega) (gf:=230) (lb:=#[.pointer (some ⟨w1.heap.size,0,none⟩)]) rfl trivial (enters_of Tryz.func230 (by kernel_rfl) rfl)
  (QeZ Fence.wide _ trivial rfl (by omega) w1.heap.size w1.heap.size g D _ (by simp) (by simp) (by omega) bN.cell ((aJ.cell (p:=⟨g,3,none⟩) (by show g<_;omega)).trans aI.c3)) belowK_t (belowK_b (by simp)) κ (fun _=>rfl)
  (fun U W=>(∀y,y∈U→¬ Qmw D d n y)∧Below w1.heap.size w1 W)
  (fun c U W=>(c=.ret∧∃p x,U=p ++ [x]∧(∀y,y∈p→¬ Qmw D d n y)∧Qmw D d n x)∧(W.cell? ⟨w.heap.size+2,0,none⟩=some (.int .i64 (U.getLast?.getD 0))∧W.cell? ⟨w.heap.size+3,0,none⟩=some (.int .i64 0))∧Below w.heap.size w W)
  ((ownFrom_pure _ _).and (ownFrom_below ρ (by simp)))
  (fun c=>(ownFrom_pure _ _).and (((Qgy (w.heap.size+2) (by simp;omega) (fun U:List Int=>Value.int .i64 (U.getLast?.getD 0))).and (Qgy (w.heap.size+3) (by simp;omega) (fun _:List Int=>Value.int .i64 0))).and (ownFrom_below ρ (by simp;omega))))
  ⟨fun y hy=>by simp at hy,aJ⟩
  (fun x=>{ tmps:=#[.pointer (some ⟨g,0,none⟩),.int .i64 d,.pointer (some ⟨w.heap.size,0,none⟩),.pointer (some ⟨w.heap.size+1,0,none⟩),.pointer (some ⟨w.heap.size+2,0,none⟩),.pointer (some ⟨w.heap.size+3,0,none⟩),.int .i64 x,.pointer (some ⟨g,0,none⟩),.int .i64 d,.bool true,.bool false,.pointer (some ⟨g,0,none⟩),.func (.func 230) #[] #[.pointer (some ⟨w1.heap.size,0,none⟩)],.int .i64 x,undef,undef,undef,undef,undef,undef,undef,undef],defers:=[] }) ?assign ?body ?done ?stop
 case assign =>
  intro l x W K hK
  gi_wp2
  exact hK
 case body =>
  rintro l U x W ⟨hP,I⟩ bH;have bC:=I.size;have cG:=(I.cell (p:=⟨w.heap.size,0,none⟩) (by show w.heap.size<_;omega)).trans d0;have cD:=(I.cell (p:=⟨w.heap.size+1,0,none⟩) (by show w.heap.size+1<_;omega)).trans d1;have r2:=(I.cell (p:=⟨w.heap.size+2,0,none⟩) (by show w.heap.size+2<_;omega)).trans d2;have r3:=(I.cell (p:=⟨w.heap.size+3,0,none⟩) (by show w.heap.size+3<_;omega)).trans d3;have z2:=(I.frozen (p:=⟨w.heap.size+2,0,none⟩) (by show w.heap.size+2<_;omega)).trans e2;have z3:=(I.frozen (p:=⟨w.heap.size+3,0,none⟩) (by show w.heap.size+3<_;omega)).trans e3;have a8:GF W W.heap.size g D:=((aI.more (by omega)).below I).more I.size;have aQ:GF W.drew W.drew.heap.size g D:=a8.drew;have aR:=η (ao x W.drew aQ);have al:=aC x;rw[Qca]at al;have aS:Hid (Calls Tryz.prog 165 #[.pointer (some ⟨g,0,none⟩),.int .i64 x,.int .i64 d] W.drew fun e w'=>∃T,e=.returned (.slice (some ⟨T,0,none⟩) n n)∧w'.cell? ⟨w.heap.size,0,none⟩=some (.pointer (some ⟨g,0,none⟩))∧w'.cell? ⟨w.heap.size+1,0,none⟩=some (.int .i64 d)∧Hid (IB w' T (QcG d (eli D.z x) n))∧Hid (Below W.drew.heap.size W.drew w')) :=
   η (aR.out.mono (by rintro e w' ⟨T,rfl,-,h2,h3⟩;exact⟨T,rfl,(h3.cell (p:=⟨w.heap.size,0,none⟩) (by show w.heap.size<W.heap.size;omega)).trans cG,(h3.cell (p:=⟨w.heap.size+1,0,none⟩) (by show w.heap.size+1<W.heap.size;omega)).trans cD,η h2,η h3⟩))
  obtain⟨bb,ar⟩:=ε ((QkZ D (QcG d (eli D.z x) n) d==0));have ag:=ap x;rw[←ar]at ag al;have aT:∀T W',Hid (IB W' T (QcG d (eli D.z x) n))→Hid (Below W.drew.heap.size W.drew W')→Hid (Calls Tryz.prog 53 #[.pointer (some ⟨g,0,none⟩),.slice (some ⟨T,0,none⟩) n n,.int .i64 d] W' fun e w'=>e=.returned (.bool bb)∧w'.cell? ⟨w.heap.size,0,none⟩=some (.pointer (some ⟨g,0,none⟩))∧w'.cell? ⟨w.heap.size+1,0,none⟩=some (.int .i64 d)∧Hid (Below W.drew.heap.size W.drew w')):=fun T W' h1 h2 =>
   η ((al (some ⟨T,0,none⟩) n W' (aQ.bm h2.out) h1.out.rd).mono (by
    rintro e w' ⟨rfl,h3⟩;have h4:=h2.out.trans (h3.mono h2.out.size);exact⟨rfl,(h4.cell (p:=⟨w.heap.size,0,none⟩) (by show w.heap.size<W.heap.size;omega)).trans cG,(h4.cell (p:=⟨w.heap.size+1,0,none⟩) (by show w.heap.size+1<W.heap.size;omega)).trans cD,η h4⟩))
  replace ar:=η ar;replace ag:=η ag;clear aR al ao aC ap
  gi_wp2
  gi_region_with_o (first
   |(refine⟨trivial,?_⟩;gi_at_call 165;refine (CallsIn.inRound l (callsIn_wide.2 aS.out)).mono ?_;rintro e w3 ⟨T,rfl,bm,bo,aX,aY⟩;have aU:=aT T w3 aX aY)
   |(refine⟨trivial,?_⟩;gi_at_call 53;refine (CallsIn.inRound l (callsIn_wide.2 aU.out)).mono ?_;rintro e w4 ⟨rfl,bp,bq,br⟩))
  all_goals
   have ac:Below W.heap.size W w4:=((Below.refl _ W).drew).trans br.out;have aV:KeepsOthers W w4:=KeepsOthers.of_grownBy (Qbr ac ρ) (fun j o ej=>by cases ej);have au:Below w1.heap.size W w4:=ac.mono I.size;have q2:=(ac.cell (p:=⟨w.heap.size+2,0,none⟩) (by show w.heap.size+2<W.heap.size;omega)).trans r2;have q3:=(ac.cell (p:=⟨w.heap.size+3,0,none⟩) (by show w.heap.size+3<W.heap.size;omega)).trans r3;have p2:=(ac.frozen (p:=⟨w.heap.size+2,0,none⟩) (by show w.heap.size+2<W.heap.size;omega)).trans z2;have p3:=(ac.frozen (p:=⟨w.heap.size+3,0,none⟩) (by show w.heap.size+3<W.heap.size;omega)).trans z3;clear bm bo bp bq r2 r3 z2 z3 aY aX aS aT aU;by_cases Y:Qmw D d n x
   ·have bc:=ag.out.1 Y;subst bc;replace Y:=η Y
    gi_wp2
    have s1:(w4.setCell ⟨w.heap.size+2,0,none⟩ (.int .i64 x)).cell? ⟨w.heap.size+2,0,none⟩=some (.int .i64 x):=World.cell?_setCell_same _ _ _ q2;have s2:(w4.setCell ⟨w.heap.size+2,0,none⟩ (.int .i64 x)).cell? ⟨w.heap.size+3,0,none⟩=some (.int .i64 0):=(World.cell?_setCell_far _ _ _ _ (by show w.heap.size+2≠w.heap.size+3;omega)).trans q3;refine⟨((aV.from _).trans (KeepsFrom.of_grownBy (QbB w4 ⟨w.heap.size+2,0,none⟩ (.int .i64 x)) (fun j e=>by injection e with e;have h:w.heap.size+2=j:=e;first |omega |(rw[World.size_alloc];omega)))).trans (KeepsFrom.of_grownBy (QbB _ ⟨w.heap.size+3,0,none⟩ (.int .i64 0)) (fun j e=>by injection e with e;have h:w.heap.size+3=j:=e;first |omega |(rw[World.size_alloc];omega))),⟨rfl,U,x,rfl,hP,Y.out⟩,⟨?_,World.cell?_setCell_same _ _ _ s2⟩,?_⟩
    ·rw[List.getLast?_append];exact (World.cell?_setCell_far _ _ _ _ (by show w.heap.size+3≠w.heap.size+2;omega)).trans s1
    ·exact ((aH.trans ((I.trans au).mono (by omega))).setCell (p:=⟨w.heap.size+2,0,none⟩) (by simp) _).setCell (p:=⟨w.heap.size+3,0,none⟩) (by simp) _
   ·have bg:=ag.out.2 Y;subst bg;have av:∀y,y∈U ++ [x]→¬ Qmw D d n y:=fun y hy=>by
     rcases List.mem_append.1 hy with h |h
     ·exact hP y h
     ·rw[List.mem_singleton.1 h];exact Y
    replace av:=η av;clear Y
    gi_wp2
    exact⟨aV.from _,au,av.out,I.trans au⟩
 case done =>
  rintro V ys W hD rfl ⟨hP,I⟩ hK;exact absurd am.2.1 (hP _ (by unfold upI;exact List.mem_map.2 ⟨k0,List.mem_range.2 am.1,rfl⟩))
 case stop =>
  rintro V c U W hD bs ⟨⟨rfl,p,x,rfl,hP,Y⟩,⟨ay,aZ⟩,I⟩ hK;obtain⟨k,bl,rfl,aW⟩:=QnE bs;obtain rfl:k=k0:=Qhx.uniq (F:=D) (d:=d) (n:=n) ⟨bl,Y,fun j hj=>hP _ (aW j hj)⟩ am;rw[List.getLast?_append]at ay;have bh:W.cell? ⟨w.heap.size+2,0,none⟩=some (.int .i64 k):=by simpa using ay
  have bF:w.heap.size+3<V:=by simp at hD;omega
  have bi:∀o,(W.putObj V o).cell? ⟨w.heap.size+2,0,none⟩=some (.int .i64 k):=fun o=>(grownBy_putObj' W V o).cell bh (fun e=>by injection e with e;have h:w.heap.size+2=V:=e;omega)
  have bj:∀o,(W.putObj V o).cell? ⟨w.heap.size+3,0,none⟩=some (.int .i64 0):=fun o=>(grownBy_putObj' W V o).cell aZ (fun e=>by injection e with e;have h:w.heap.size+3=V:=e;omega)
  have bk:∀o,Below w.heap.size w (W.putObj V o):=fun o=>I.trans ((belowK_b (w:=w1) (n₀:=w.heap.size) (by omega) W V _ o (by simp at hD;omega) hK rfl rfl))
  clear hP aW ay aZ
  gi_wp2
  refine⟨by simp,.inl ⟨_,_,rfl,run_takeDeferred hK,?_⟩⟩;refine⟨.tuple #[.int .i64 k,.int .i64 0],by simp[results,Tryz.results218,go_sem,bi,bj],rfl,bk _⟩
end
end Go.Proofs
