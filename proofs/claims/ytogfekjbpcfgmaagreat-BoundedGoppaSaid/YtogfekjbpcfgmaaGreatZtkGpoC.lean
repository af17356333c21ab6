/- Layer 5 of the program: trim, Canon, combine. -/
import Derived.Test.YtogfekjbpcfgmaaGreatZtkDiv5
set_option maxRecDepth 100000
set_option maxHeartbeats 16000000
set_option linter.unusedVariables false
namespace Go.Proofs
open Go.RowKit Cw
section
theorem Qkt {k I:Nat} (h:k=I+1)(J:k≤1000000):IntKind.i64.wrap ((k:Int) - 1)=(I:Int):=by
 rw[IntWalk.i64_in _ (by omega)];omega
def QeB (l:List Int)(w:World)(e:Ending)(w':World):Prop :=
 ∃A c,e=.returned (.slice A l.length c)∧Rd w' w'.heap.size A l∧l.length≤c∧c≤maxLen∧(∀a,A=some a→w.heap.size≤a.block)∧Below w.heap.size w w'
theorem Rd.lst_take {w:World} {B n N:Nat} {A:Option Addr} {f:Nat→Int} (h:Rd w B A (lst n f))(U:N≤n):Rd w B A (lst N f):=fun hp=>by
 rw[Qab]at hp;obtain⟨b,J,e,O,T⟩:=h (by rw[Qab];omega);refine⟨b,J,e,O,fun j I=>?_⟩;rw[Qab]at I;have:=T j (by rw[Qab];omega);rw[Qas _ (by omega)]at this;rw[Qas _ I];exact this
theorem QdP (n:Nat)(f:Nat→Int)(A:Option Addr)(c:Nat)(w:World)(X:Rd w w.heap.size A (lst n f))(hn:n≤1000000)(hc:n≤c)(_hc':c≤maxLen) :
  Calls Tryz.prog 184 #[.slice A n c] w fun e w'=>e=.returned (.slice A (QeY f n) c)∧w=w':=by
 go_enter Tryz.func184,Tryz.ntmps184;go_wp2_with fail;go_loop [0] (fun v=>∃k:Nat,k≤n∧v=.slice A k c∧Hid (QeY f n=QeY f k)) (fun v=>Qou v)
 case atStart=>exact⟨n,Nat.le_refl _,rfl,rfl⟩
 case round =>
  obtain⟨k,hk,rfl,O⟩:=hrel;rcases Nat.eq_zero_or_pos k with h0 |ai
  ·subst h0;go_wp2_with fail;go_ret;exact⟨by rw[O.out];rfl,rfl⟩
  ·obtain⟨J,I⟩:∃J,k=J+1:=⟨k - 1,by omega⟩;have ac:=Qkt I (by omega);obtain⟨b,o,rfl,-,V⟩:=X.at_ (by rw[Qab];omega:J<(lst n f).length);rw[Qas _ (by omega)]at V;have ad:(0:Int)<(k:Int):=by omega
   have ae:(0:Int)≤(J:Int):=by omega
   have af:(J:Int)<(k:Int):=by omega
   have ag:(J:Int)≤(c:Int):=by omega
   obtain⟨y,T⟩:=ε (f J);rw[←T]at V;by_cases hz:y=0
   ·have Y:(y==0)=true:=by rw[beq_iff_eq];exact hz
    have U:Hid (QeY f n=QeY f J):=by unfold Hid;rw[O.out,I,Qi3 (by rw[←T];exact hz)]
    replace I:=η I;clear hz T O;go_wp2_with fail;go_round
    case rel=>exact⟨J,by have:=I.out;omega,rfl,U⟩
    case measure=>simp[Qou];have:=I.out;omega
   ·have Y:(y==0)=false:=by rw[beq_eq_false_iff_ne];exact hz
    have U:Hid (QeY f n=k):=by unfold Hid;rw[O.out,I,Qi4 (by rw[←T];exact hz)]
    replace I:=η I;clear hz T O;go_wp2_with fail;go_ret;exact⟨by rw[U.out];rfl,rfl⟩
theorem Qfe (F:FD)(p:List Int)(A1:Option Addr)(c1 g:Nat)(w:World)(hg:GF w w.heap.size g F)(ar:Rd w w.heap.size A1 p)(hl:p.length≤70000) :
  Calls Tryz.prog 181 #[.pointer (some ⟨g,0,none⟩),.slice A1 p.length c1] w fun e w'=>∃gb,e=.returned (.slice (some ⟨gb,0,none⟩) (QaD F.z p).length p.length)∧w.heap.size≤gb∧IB w' gb (lst p.length (cfI F.z p))∧Below w.heap.size w w':=by
 obtain⟨n,hn⟩:=ε (p.length);have aG:=QaC n (by omega);obtain⟨f,hf⟩:=ε (cfI F.z p);have au:∀k,f k=if decide (0≤p[k]?.getD 0∧p[k]?.getD 0<(F.q:Int))=true then p[k]?.getD 0 else 0:=fun k=>by
  rw[hf];unfold cfI cfR;by_cases h:0≤p[k]?.getD 0∧p[k]?.getD 0<(F.q:Int)
  ·rw[if_pos (decide_eq_true h)];exact Qci h
  ·rw[if_neg (by rw[decide_eq_false h];decide)];unfold eli;rw[if_neg h];exact QaF
 have av:Hid (QaD F.z p=lst (QeY f n) f):=by rw[hf,hn];rfl
 have hT:=fun A c W a b d=>η (QdP n f A c W a (by omega) b d)
 obtain⟨gb,T⟩:=ε (w.heap.size);obtain⟨Y,X⟩:=ε (w.alloc (.cells (Array.replicate n (Value.int .i64 0)) 3));have aj:IB Y gb (upd n 0 f):=by rw[QaP,X,T];exact IB.newz w n
 have ak:Below w.heap.size w Y:=by rw[X];exact β
 have al:w.heap.size≤gb:=Nat.le_of_eq T.symm;have aH:gb≤w.heap.size:=Nat.le_of_eq T;have ax:=η hn;have aI:n≤70000:=by omega
 rw[←hn];replace X:=η X;replace T:=η T;replace hf:=η hf;clear hn;go_enter Tryz.func181,Tryz.ntmps181;go_wp2_with fail;rw[←X.out,←T.out];go_loopw [13] (fun i wr=>∃k:Nat,k≤n∧i=.int .i64 k∧IB wr gb (upd n k f)∧Below w.heap.size w wr) (fun i _=>n - (intOf i).toNat)
 case atStart=>exact⟨0,by omega,rfl,aj,ak⟩
 case round =>
  obtain⟨k,hk,rfl,O,V⟩:=hrel;obtain⟨w3,rfl⟩:=ε (wr:World);clear aj ak;by_cases ao:k<n
  ·have aJ:(0:Int)≤(k:Int):=by omega
   have aK:(k:Int)<(n:Int):=by omega
   obtain⟨b,o,rfl,hb,hc⟩:=ar.at_ (by rw[←ax.out];exact ao:k<p.length);have hd:=(V.cell (p:=⟨b,o+k,none⟩) hb).trans hc;obtain⟨y,hy⟩:=ε (p[k]?.getD 0);have I:=au k;rw[←hy]at hd I;have J:=Qhi F y g w3 (hg.bm V);have ad:k<(upd n k f).length:=by rw[Qaz];exact ao
   have az:=O.cell ad;have aA:=O.frozen k;have U:=O.set_ k (f k);rw[QaY]at U;have ae:Below w.heap.size w (w3.setCell ⟨gb,k,none⟩ (.int .i64 (f k))):=V.setCell (p:=⟨gb,k,none⟩) al _;have af:f k=0→IB w3 gb (upd n (k+1) f):=fun e=>by
    have h:=QaY n k f;have h2:(upd n k f).set k (f k)=upd n k f:=by
     rw[e];apply List.ext_getElem
     ·simp
     ·intro i h3 h4;rw[List.getElem_set];by_cases e2:k=i
      ·rw[if_pos e2];have h5:=Qtt (n:=n) (k:=k) (i:=i) f (by simpa [Qaz] using h4);rw[if_neg (by omega),List.getElem?_eq_getElem h4,Option.getD_some]at h5;exact h5.symm
      ·rw[if_neg e2]
    rw[←h,h2];exact O
   replace hy:=η hy
   cases ac:decide (0≤y∧y<(F.q:Int)) with
   |true =>
    rw[ac]at J I;rw[if_pos rfl]at I;rw[I]at U ae;replace J:=η J;replace U:=η U;clear hc ac I af ad;go_wp2_with fail;(with_reducible refine J.out.mono ?_);rintro e w4 ⟨rfl,rfl⟩;go_wp2_with fail;go_roundw
    case rel=>exact⟨k+1,by omega,by go_num,U.out,ae⟩
    case measure=>simp[intOf];omega
   |false =>
    rw[ac]at J I;rw[if_neg (by decide)]at I;have aC:=η (af I);replace J:=η J;clear hc ac I af ad U ae az aA;go_wp2_with fail;(with_reducible refine J.out.mono ?_);rintro e w4 ⟨rfl,rfl⟩;go_wp2_with fail;go_roundw
    case rel=>exact⟨k+1,by omega,by go_num,aC.out,V⟩
    case measure=>simp[intOf];omega
  ·obtain rfl:k=n:=by omega
   rw[QaR]at O;have aD:=hT (some ⟨gb,0,none⟩) k w3 O.rd ρ (by unfold maxLen;omega);have aL:=QbY f k;go_wp2_with fail;(with_reducible refine aD.out.mono ?_);rintro e w4 ⟨rfl,rfl⟩;go_wp2_with fail;go_ret;exact⟨gb,by rw[av.out,Qab];rfl,al,by rw[←hf.out];exact O,V⟩
theorem Qcl (F:FD)(p:List Int)(I:Option Addr)(c1 g:Nat)(w:World)(O:GF w w.heap.size g F)(T:Rd w w.heap.size I p)(U:p.length≤70000) :
  Calls Tryz.prog 181 #[.pointer (some ⟨g,0,none⟩),.slice I p.length c1] w (QeB (QaD F.z p) w) :=
 (Qfe F p I c1 g w O T U).mono fun e w' ⟨gb,X,Y,h2,h3⟩=>by
  have J:=Qa4 F.z p;have V:QaD F.z p=lst (QaD F.z p).length (cfI F.z p):=by unfold QaD;rw[QaH];rfl
  refine⟨some ⟨gb,0,none⟩,p.length,X,?_,J,by unfold maxLen;omega,fun a e=>by cases e;exact Y,h3⟩;rw[V];exact h2.rd.lst_take J
end
section
def QbL (D:Desc)(p q:List Int):List Int:=if (QaD D p).length=0∨(QaD D q).length=0 then [] else lst ((QaD D p).length+(QaD D q).length - 1) fun t=>ci (conv (cfR D p) (cfR D q) t)
theorem Qdw (D:Desc){p:List Int} {t:Nat} (h:(QaD D p).length≤t):cfR D p t=0:=by rw[←Qbe];exact Qao D h
theorem QdQ (D:Desc)(p q:List Int):cfR D (QbL D p q)=conv (cfR D p) (cfR D q):=funext fun t=>by
 have I:=fun t h=>Qdw D (p:=p) (t:=t) h
 have J:=fun t h=>Qdw D (p:=q) (t:=t) h
 unfold QbL;by_cases h:(QaD D p).length=0∨(QaD D q).length=0
 ·rw[if_pos h,Qao D (by simp)];refine (Qag fun s _=>?_).symm;rcases h with h |h
  ·rw[I s (by omega),Qah]
  ·rw[J (t - s) (by omega),Qac]
 ·rw[if_neg h];by_cases O:t<(QaD D p).length+(QaD D q).length - 1
  ·show eli D ((lst _ _)[t]?.getD 0)=_
   rw[Qas _ O,Qam]
  ·rw[Qao D (by rw[Qab];omega),Qb8 I J (by omega)]
theorem QfL (F:FD)(p q:List Int)(A1 A2:Option Addr)(c1 c2 g:Nat)(w:World)(hg:GF w w.heap.size g F)(bc:Rd w w.heap.size A1 p)(be:Rd w w.heap.size A2 q)(bB:p.length≤20000)(bC:q.length≤20000) :
  Calls Tryz.prog 185 #[.pointer (some ⟨g,0,none⟩),.slice A1 p.length c1,.slice A2 q.length c2] w (QeB (QbL F.z p q) w):=by
 have ad:=fun W a b=>Qcl F p A1 c1 g W a b (by omega)
 have ae:=fun W a b=>Qcl F q A2 c2 g W a b (by omega)
 have aK:=Qa4 F.z p;have aL:=Qa4 F.z q;obtain⟨P,hP⟩:=ε (cfR F.z p);obtain⟨Q,hQ⟩:=ε (cfR F.z q);have an:∀i,eli F.z ((QaD F.z p)[i]?.getD 0)=P i:=fun i=>by rw[hP,←Qbe];rfl
 have ao:∀i,eli F.z ((QaD F.z q)[i]?.getD 0)=Q i:=fun i=>by rw[hQ,←Qbe];rfl
 have ap:∀t,(QaD F.z p).length≤t→P t=0:=fun t h=>by rw[←an,List.getElem?_eq_none h];exact QbC
 have aq:∀t,(QaD F.z q).length≤t→Q t=0:=fun t h=>by rw[←ao,List.getElem?_eq_none h];exact QbC
 have ab:QbL F.z p q=if (QaD F.z p).length=0∨(QaD F.z q).length=0 then [] else lst ((QaD F.z p).length+(QaD F.z q).length - 1) fun t=>ci (Qb7 P Q (QaD F.z p).length 0 t):=by
  unfold QbL;rw[←hP,←hQ];by_cases h:(QaD F.z p).length=0∨(QaD F.z q).length=0
  ·rw[if_pos h,if_pos h]
  ·rw[if_neg h,if_neg h];exact Qay fun t _=>by rw[QeM _ _ ap]
 obtain⟨p',aM⟩:=ε (QaD F.z p);obtain⟨q',aN⟩:=ε (QaD F.z q);rw[←aM]at aK ad an ap ab;rw[←aN]at aL ae ao aq ab;obtain⟨I,ay⟩:=ε (p'.length);obtain⟨J,az⟩:=ε (q'.length);unfold QeB at ad ae;rw[←ay]at ad ap ab aK;rw[←az]at ae aq ab aL;replace ad:=fun W a b=>η (ad W a b)
 replace ae:=fun W a b=>η (ae W a b)
 have bD:I≤20000:=by omega
 have bE:J≤20000:=by omega
 replace hP:=η hP;replace hQ:=η hQ;replace an:=η an;replace ao:=η ao;replace ap:=η ap;replace aq:=η aq;replace aM:=η aM;replace aN:=η aN;replace ay:=η ay;replace az:=η az;replace ab:=η ab;clear aK aL;go_enter Tryz.func185,Tryz.ntmps185;go_wp2_with fail;(with_reducible refine (ad w hg bc).out.mono ?_);rintro e w1 ⟨A3,c3,rfl,bx,bX,bY,bZ,am⟩;go_wp2_with fail;(with_reducible refine (ae w1 (hg.bm am) (be.bm am)).out.mono ?_);rintro e U ⟨A4,c4,rfl,bz,b2,b5,b6,aU⟩;have af:=ζ am aU;have bf:=bx.bm aU;have bg:=hg.bm af;by_cases aW:I=0
 ·have bh:((I:Int)==0)=true:=by rw[beq_iff_eq];omega
  have V:Hid (QbL F.z p q=[]):=ab.out.trans (if_pos (.inl aW));clear aW;go_wp2_with fail;go_ret;exact⟨none,0,by rw[V.out];rfl,by rw[V.out];exact Rd.nil,by rw[V.out];exact Nat.le_refl _,Nat.zero_le _,(fun a e=>(by cases e)),af⟩
 have bF:((I:Int)==0)=false:=by rw[beq_eq_false_iff_ne];omega
 by_cases aX:J=0
 ·have bh:((J:Int)==0)=true:=by rw[beq_iff_eq];omega
  have V:Hid (QbL F.z p q=[]):=ab.out.trans (if_pos (.inr aX));clear aX;go_wp2_with fail;go_ret;exact⟨none,0,by rw[V.out];rfl,by rw[V.out];exact Rd.nil,by rw[V.out];exact Nat.le_refl _,Nat.zero_le _,(fun a e=>(by cases e)),af⟩
 have bG:((J:Int)==0)=false:=by rw[beq_eq_false_iff_ne];omega
 obtain⟨L,hL⟩:=ε (I+J - 1);have V:Hid (QbL F.z p q=lst L fun t=>ci (Qb7 P Q I 0 t)):=by unfold Hid;rw[ab.out,if_neg (by omega),hL]
 have bH:IntKind.i64.wrap ((I:Int)+(J:Int))=(I:Int)+(J:Int):=IntWalk.i64_in _ (by omega);have bI:IntKind.i64.wrap ((I:Int)+(J:Int) - 1)=(L:Int):=by rw[IntWalk.i64_in _ (by omega)];omega
 have bJ:=QaC L (by omega);obtain⟨gb,ah⟩:=ε (U.heap.size);obtain⟨Y,hY⟩:=ε (U.alloc (.cells (Array.replicate L (Value.int .i64 0)) 3));have T:IB Y gb (lst L fun t=>ci (Qb7 P Q 0 0 t)):=by
  rw[hY,ah,Qay (g:=fun _=>0) (fun i _=>by rw[Qio,QaF]),←Qd2];exact IB.newz U _
 have aY:Below U.heap.size U Y:=by rw[hY];exact β
 have bi:U.heap.size≤gb:=Nat.le_of_eq ah.symm;have bK:gb≤U.heap.size:=Nat.le_of_eq ah;have bj:w.heap.size≤gb:=by have:=af.size;omega
 have aO:∀i j,i<I→j<J→i+j<L:=fun i j h1 h2=>by omega
 replace aO:=η aO;replace hL:=η hL;replace hY:=η hY;replace ah:=η ah;replace T:=η T;clear aW aX ad ae;go_wp2_with fail;rw[←hY.out];simp only[←ah.out];go_loopw [35] (fun i wr=>∃k:Nat,k≤I∧i=.int .i64 k∧Hid (IB wr gb (lst L fun t=>ci (Qb7 P Q k 0 t)))∧Below U.heap.size U wr) (fun i _=>I - (intOf i).toNat)
 case atStart=>exact⟨0,by omega,rfl,T,aY⟩
 case round =>
  clear T aY hY;obtain⟨wo,rfl⟩:=ε (wr:World);obtain⟨i,hi,rfl,T,X⟩:=hrel;by_cases ba:i<I
  ·have bL:(0:Int)≤(i:Int):=by omega
   have bM:(i:Int)<(I:Int):=by omega
   obtain⟨b3,o3,rfl,bt,a7⟩:=bf.at_ (by rw[←ay.out];exact ba:i<p'.length);have aZ:=(X.cell (p:=⟨b3,o3+i,none⟩) bt).trans a7;obtain⟨y1,aB⟩:=ε (p'[i]?.getD 0);rw[←aB]at aZ;replace aB:=η aB;clear a7;go_wp2_with fail;clear aZ;go_loopw [42] (fun j' wr=>∃j:Nat,j≤J∧j'=.int .i64 j∧Hid (IB wr gb (lst L fun t=>ci (Qb7 P Q i j t)))∧Below U.heap.size U wr) (fun j' _=>J - (intOf j').toNat)
   case atStart=>exact⟨0,by omega,rfl,T,X⟩
   case round =>
    clear T X;obtain⟨wi,rfl⟩:=ε (wr:World);obtain⟨j,hj,rfl,T,X⟩:=hrel;by_cases bb:j<J
    ·have bN:(0:Int)≤(j:Int):=by omega
     have bO:(j:Int)<(J:Int):=by omega
     have aP:=aO.out i j ba bb;obtain⟨b4,o4,rfl,bw,a8⟩:=bz.at_ (by rw[←az.out];exact bb:j<q'.length);have bk:=(X.cell (p:=⟨b4,o4+j,none⟩) bw).trans a8;have ar:=T.out.cell (i:=i+j) (by rw[Qab];exact aP);rw[Qas _ aP]at ar;obtain⟨y2,aC⟩:=ε (q'[j]?.getD 0);obtain⟨y3,aD⟩:=ε (ci (Qb7 P Q i j (i+j)));obtain⟨y4,aE⟩:=ε (ci (Qb7 P Q i (j+1) (i+j)));rw[←aC]at bk;rw[←aD]at ar;have aQ:=bg.bm X;have hM:=η (QbZ F y1 y2 g wi.drew aQ.drew);have ai:=fun W h=>Qcf F y3 (ci (eli F.z y1*eli F.z y2)) g W h
     have a0:ci (eli F.z y3+eli F.z (ci (eli F.z y1*eli F.z y2)))=y4:=by
      rw[aE,Qip,aD,Qam,Qam,aB.out,aC,an.out,ao.out]
     rw[a0]at ai;replace ai:=fun W h=>η (ai W h)
     obtain⟨z,hz⟩:=ε (ci (eli F.z y1*eli F.z y2));rw[←hz]at hM ai;have bl:Hid ((lst L fun t=>ci (Qb7 P Q i j t)).set (i+j) y4=lst L fun t=>ci (Qb7 P Q i (j+1) t)):=by
      unfold Hid;rw[Qd1];exact Qay fun t _=>by
       by_cases e:t=i+j
       ·rw[if_pos e,aE,e]
       ·rw[if_neg e,Qhd _ _ e]
     have bP:IntKind.i64.wrap ((i:Int)+(j:Int))=(i:Int)+(j:Int):=IntWalk.i64_in _ (by omega);have a1:(i:Int)+(j:Int)=((i+j:Nat):Int):=by omega
     have bQ:(0:Int)≤(i:Int)+(j:Int):=by omega
     have bR:(i:Int)+(j:Int)<(L:Int):=by omega
     have bS:((i:Int)+(j:Int)).toNat=i+j:=by omega
     have aS:=T.out.lt;replace aC:=η aC;replace aD:=η aD;replace aE:=η aE;replace hz:=η hz;replace a1:=η a1;clear a8 a0;go_wp2_with fail;refine wp_region_held_drew (S:=fun w'=>True) (by kernel_rfl) (by (try dsimp only);all_goals trivial) (fun hHeld=>?_);refine tk 0 ?_;simp only[pS]
     refine tk 1 ?_;simp only[pS]
     refine tk 2 ?_;simp only[pS]
     refine tk 3 ?_;simp only[pS]
     refine tk 4 ?_;simp only[pS]
     refine tk 5 ?_;simp only[pS]
     refine tk 6 ?_;simp only[pS]
     refine tk 7 ?_;simp only[pS]
     refine tk 8 ?_;simp only[pS]
     refine tk 9 ?_;simp only[pS]
     refine tk 11 ?_;simp only[pS]
     refine tk 12 ?_;simp only[pS]
     refine tk 13 ?_;simp only[pS]
     refine wpAnyH_ready (rs:=[10,14]) (by kernel_rfl) (by simp) ?_;refine AllReadyH.cons (o:=⟨_,_,_,_,_,_⟩) rfl (fun K O=>?_) ?_
     all_goals first
      |(go_simp
        refine O.out _ _ (by (try dsimp only);all_goals trivial) (fun hHeld=>?_);clear O K;try simp only[pS]
        refine rd 14 fun K O=>?_
        go_simp;go_at_call 90;(with_reducible refine (hM).out.mono ?_);rintro e w6 ⟨rfl,aa⟩;have a2:=(aa.cell (p:=⟨gb,i+j,none⟩) aS).trans ar;have a3:wi.heap.size≤w6.heap.size:=aa.size;have a4:=ai w6 (aQ.drew.bm aa);go_wp2_with fail)
      |(refine AllReadyH.cons (o:=⟨_,_,_,_,_,_⟩) rfl (fun K O=>?_) AllReadyH.nil
        go_simp;go_at_call 90;(with_reducible refine (hM).out.mono ?_);rintro e w6 ⟨rfl,aa⟩;have a2:=(aa.cell (p:=⟨gb,i+j,none⟩) aS).trans ar;have a3:wi.heap.size≤w6.heap.size:=aa.size;have a4:=ai w6 (aQ.drew.bm aa);go_wp2_with fail;refine O.out _ _ (by (try dsimp only);all_goals trivial) (fun hHeld=>?_);clear O K;try simp only[pS]
        refine rd 10 fun K O=>?_
        go_simp)
     all_goals
      refine O.out _ _ (by (try dsimp only);all_goals trivial) (fun hHeld=>?_);clear O K;try simp only[pS]
      refine rd 15 fun K O=>?_
      go_simp;go_at_call 91;(with_reducible refine (a4).out.mono ?_);rintro e w7 ⟨rfl,bA⟩;have a5:Below wi.heap.size wi w7:=((Below.refl _ wi).drew.trans aa).trans (bA.mono a3);have aT:=T.out.below a5 aS;have bm:=aT.cell (i:=i+j) (by rw[Qab];exact aP);have bo:=aT.frozen (i+j);go_wp2_with fail;refine O.out _ _ (by (try dsimp only);all_goals trivial) (fun hHeld=>?_);clear O K;try simp only[pS]
      refine tk 16 ?_;simp only[pS]
      refine rd 17 fun K O=>?_
      go_simp;refine O.out _ _ (by (try dsimp only);all_goals trivial) (fun hHeld=>?_);clear O K;try simp only[pS]
      refine δ ?_;have aF:=aT.set_ (i+j) y4;rw[bl.out]at aF;replace aF:=η aF;have bp:Below U.heap.size U (w7.setCell ⟨gb,i+j,none⟩ (.int .i64 y4)):=(ζ X a5).setCell (p:=⟨gb,i+j,none⟩) bi _;clear a2 bm bo ar;go_wp2_with fail;go_roundw
      case rel=>exact⟨j+1,by omega,by go_num,aF,bp⟩
      case measure=>simp[intOf];omega
    ·obtain rfl:J=j:=by omega
     have bq:Hid ((lst L fun t=>ci (Qb7 P Q i J t))=lst L fun t=>ci (Qb7 P Q (i+1) 0 t)):=Qay fun t _=>by rw[Qj5 _ _ aq.out]
     rw[bq.out]at T;go_wp2_with fail;go_roundw
     case rel=>exact⟨i+1,by omega,by go_num,T,X⟩
     case measure=>simp[intOf];omega
  ·obtain rfl:I=i:=by omega
   go_wp2_with fail;go_ret;refine⟨some ⟨gb,0,none⟩,L,by rw[V.out,Qab];rfl,by rw[V.out];exact T.out.rd,by rw[V.out,Qab];exact Nat.le_refl _,by have:=hL.out;unfold maxLen;omega,fun a e=>by cases e;exact bj,ζ af X⟩
end
section
open Go.Shelf
theorem QnJ (D:FD)(p:List Int)(A1:Option Addr)(c1 g:Nat)(w:World)(hg:GF w w.heap.size g D)(aQ:Rd w w.heap.size A1 p)(hl:p.length≤70000)(al:QaD D.z p≠[]) :
  Calls Tryz.prog 169 #[.pointer (some ⟨g,0,none⟩),.slice A1 p.length c1] w fun e w' =>
   ∃v,e=.returned (.tuple #[v,.int .i64 0])∧Own w' w.heap.size v (Qdf D (QaD D.z p) (upI D.q))∧Below w.heap.size w w':=by
 have hC:=fun W a b=>Qcl D p A1 c1 g W a b hl
 obtain⟨I,ag⟩:=ε (QaD D.z p);rw[←ag]at hC al ⊢;unfold QeB at hC;have bk:I.length≤70000:=by rw[ag];exact τ (Qa4 _ _) hl
 have bl:((I.length:Int)==0)=false:=by
  rw[beq_eq_false_iff_ne];intro e;exact al (List.eq_nil_of_length_eq_zero (by omega))
 replace ag:=η ag;have V:Below w.heap.size w (w.alloc (.cells #[.pointer (some ⟨g,0,none⟩)] 66)):=β;have aB:=η (hC _ (hg.bm V) (aQ.bm V));clear hC al;refine (callsIn_wide (n:=3)).1 ?_;refine callsIn_of_wp_marks Tryz.func169 rfl trivial ?_ rfl;simp only[Tryz.ntmps169,List.size_toArray,List.length_cons,List.length_nil,Nat.reduceAdd,Nat.reduceSub,Array.replicate_succ,Array.replicate_zero,List.push_toArray,List.append_toArray,List.nil_append,List.cons_append];have aC:=(Boxed.new w 66 (.pointer (some ⟨g,0,none⟩)));have bm:Tryz.prog.follows .mixedOrders=true:=by kernel_rfl
 obtain⟨i0,hi,a4,a5,a6⟩:=info_parts Qhe
 gi_wp2_with (first
  |(refine⟨trivial,?_⟩;gi_at_call 181;refine (callsIn_wide.2 aB.out).mono ?_;rintro e w1 ⟨A,c,rfl,aL,ba,bx,bb,ai⟩;have aR:=ai.size;simp only[World.size_alloc]at aR;have am:Boxed w1 w.heap.size 66 (.pointer (some ⟨g,0,none⟩)):=(ai.block _ (by simp)).trans aC;have aS:=am.cell;have aT:w.heap.size<w1.heap.size:=by omega)
  |(refine⟨trivial,?_⟩;gi_at_call 211;refine (Qhw Fence.wide _ trivial rfl g _).mono ?_;rintro e w2 ⟨rfl,rfl⟩))
 have bo:g<w.heap.size:=hg.lt;obtain⟨W2,X⟩:=ε (w1.alloc (.cells #[.slice A I.length c] 22));have an:W2.heap.size=w1.heap.size+1:=by rw[X];simp
 have ab:Below w1.heap.size w1 W2:=by rw[X];exact β
 have aU:Boxed W2 w1.heap.size 22 (.slice A I.length c):=by rw[X];exact Boxed.new w1 _ _
 have aV:Boxed W2 w.heap.size 66 (.pointer (some ⟨g,0,none⟩)):=(ab.block _ aT).trans am;have ao:Below w.heap.size w w1:=ζ V ai;have ap:Below w.heap.size w W2:=ζ ao ab;have aW:Rd W2 W2.heap.size A I:=aL.bm ab;have aD:GF W2 w.heap.size g D:=hg.below ap;rw[←X];rw[←an];replace X:=η X;have bp:=η an;have aX:w1.heap.size<W2.heap.size:=by omega
 have aY:w.heap.size<W2.heap.size:=by omega
 clear an;clear aL ba bb ai am aS ao V aB aC ab;have bO:=Boxed.new W2 22 (.slice none 0 0);have bN:=Boxed.new (W2.alloc (.cells #[.slice none 0 0] 22)) 66 (.pointer (some ⟨g,0,none⟩));rw[World.size_alloc]at bN;have aF:Below W2.heap.size W2 ((W2.alloc (.cells #[.slice none 0 0] 22)).alloc (.cells #[.pointer (some ⟨g,0,none⟩)] 66)):=((Below.refl _ W2).alloc ρ _).alloc (by simp) _;have aq:w.heap.size≤W2.heap.size:=ap.size;refine wpIn_rangeFunc_ownG rfl (by omega) (gf:=230) (lb:=#[.pointer (some ⟨W2.heap.size+1,0,none⟩)]) rfl trivial (enters_of Tryz.func230 (by kernel_rfl) rfl)
  (QeZ Fence.wide _ trivial rfl (by omega) (W2.heap.size+1) W2.heap.size g D _ (by simp) (by simp;omega) (by omega) bN.cell ((aF.cell (p:=⟨g,3,none⟩) (by simp;omega)).trans aD.c3)) belowK_t (belowK_b (by simp;omega)) κ (fun _=>rfl)
  (fun J W=>(∃v,Boxed W W2.heap.size 22 v∧W.ownsRow W2.heap.size 3 1 v (Qdf D I J).length ((Qdf D I J).map (Value.int .i64))∧True)∧Below W2.heap.size W2 W)
  (fun _ _ _=>False)
  (OwnFrom.and (Own.from (holdsRow_own W2.heap.size W2.heap.size 22 3 1 (fun J=>(Qdf D I J).length) (fun J=>(Qdf D I J).map (Value.int .i64)) (fun _ _=>True)) _) (ownFrom_below ρ (by simp;omega)))
  (fun _ _ _ _ _ hs _ _=>hs)
  ⟨⟨_,bO.alloc _,World.ownsRow_nil _ _ _ _,trivial⟩,aF⟩
  (fun x=>{ tmps:=#[.pointer (some ⟨g,0,none⟩),.slice A1 p.length c1,.pointer (some ⟨w.heap.size,0,none⟩),undef,.slice none 0 0,.int .i64 0,.pointer (some ⟨w1.heap.size,0,none⟩),.pointer (some ⟨W2.heap.size,0,none⟩),.int .i64 x,.pointer (some ⟨g,0,none⟩),.slice A1 p.length c1,.slice A I.length c,.slice A I.length c,.int .i64 (I.length:Nat),.bool false,.pointer (some ⟨g,0,none⟩),.func (.func 230) #[] #[.pointer (some ⟨W2.heap.size+1,0,none⟩)],.int .i64 x,undef,undef,undef,undef,undef,undef,undef,undef,undef,undef],defers:=[] }) ?assign ?body ?done ?stop
 case assign =>
  intro l x W K hK
  gi_wp2
  exact hK
 case body =>
  rintro l J x W ⟨⟨v,U,aj,-⟩,O⟩ bA;have hc:=U.cell;have bq:(Qdf D I J).length≤J.length:=List.length_filter_le _ _;have br:=D.q256;have bs:W.cell? ⟨w.heap.size,0,none⟩=some (.pointer (some ⟨g,0,none⟩)):=(O.cell (p:=⟨w.heap.size,0,none⟩) aY).trans aV.cell;have bt:W.cell? ⟨w1.heap.size,0,none⟩=some (.slice A I.length c):=(O.cell (p:=⟨w1.heap.size,0,none⟩) aX).trans aU.cell;have a0:GF W W.heap.size g D:=((aD.more aq).below O).more O.size;have hE:=QdL D I x A c g W a0 (aW.bm O) (by unfold maxLen;omega);obtain⟨y,hy⟩:=ε (ci (QaW D.z I (eli D.z x)));rw[←hy]at hE;have aG:Hid (Calls Tryz.prog 180 #[.pointer (some ⟨g,0,none⟩),.slice A I.length c,.int .i64 x] W fun e w'=>w'.cell? ⟨W2.heap.size,0,none⟩=some v∧e=.returned (.int .i64 y)∧Hid (Below W.heap.size W w')) :=
   η (hE.mono (by rintro e w' ⟨rfl,h3⟩;exact⟨(h3.cell (p:=⟨W2.heap.size,0,none⟩) U.lt).trans hc,rfl,η h3⟩))
  clear hE hc;by_cases Y:QaW D.z I (eli D.z x)=0
  ·have hx:=η (QpG D I J Y);have hz:(y==0)=true:=by rw[beq_iff_eq,hy,Y,QaF]
   clear Y hy
   gi_wp2_with (first |(refine⟨trivial,?_⟩;gi_at_call 180;refine (CallsIn.inRound l (callsIn_wide.2 aG.out)).mono ?_;rintro e w3 ⟨bc,rfl,ay⟩;have T:Below W.heap.size W w3:=ay.out;have aw:Boxed w3 W2.heap.size 22 v:=(T.block _ U.lt).trans U;have ah:w3.ownsRow W2.heap.size 3 1 v (Qdf D I J).length ((Qdf D I J).map (Value.int .i64)):=World.ownsRow.kept aj (Qbr T ρ) (by cases v.ownBlock <;> simp);have ax:KeepsOthers W w3:=KeepsOthers.of_grownBy (Qbr T ρ) (fun j o ej=>by cases ej);have ac:Below W2.heap.size W w3:=T.mono O.size;have aH:W2.heap.size≤w3.heap.size:=τ O.size T.size) |(gi_at_builtin;refine wpListIn_append_own _ rfl _ _ 22 rfl W2.heap.size 3 i0 (.int .i64 0) 1 8 Tryz.underlying22 hi a4 a5 a6 rfl (by decide) _ _ _ rfl (ah.alloc _) ⟨w3.heap.size,0,none⟩ 1 1 [.int .i64 x] rfl rfl (cell_one_new _ _ _) (by simp[Value.oneCell']) (by simp only[maxLen];omega) (by omega) (by simp;omega) ?_;intro v' w4 aO bf _;obtain⟨g',bw,rfl⟩:=ownsRow_succ aO;obtain⟨aJ,a7,a8,a9,aK⟩:=aw.appended (by decide) ah aH ρ aO bf;have bu:=aJ.cell;have bv:=aJ.frozen))
   exact⟨(ax.trans a9).from _,ac.trans aK,⟨_,a7,by rw[hx.out];simpa using a8,trivial⟩,O.trans (ac.trans aK)⟩
  ·have hx:=η (QnF D I J Y);have hz:(y==0)=false:=by rw[beq_eq_false_iff_ne,hy];exact fun e=>Y (Qaq.1 e)
   clear Y hy
   gi_wp2_with ((refine⟨trivial,?_⟩;gi_at_call 180;refine (CallsIn.inRound l (callsIn_wide.2 aG.out)).mono ?_;rintro e w3 ⟨bc,rfl,ay⟩;have T:Below W.heap.size W w3:=ay.out;have aw:Boxed w3 W2.heap.size 22 v:=(T.block _ U.lt).trans U;have ah:w3.ownsRow W2.heap.size 3 1 v (Qdf D I J).length ((Qdf D I J).map (Value.int .i64)):=World.ownsRow.kept aj (Qbr T ρ) (by cases v.ownBlock <;> simp);have ax:KeepsOthers W w3:=KeepsOthers.of_grownBy (Qbr T ρ) (fun j o ej=>by cases ej);have ac:Below W2.heap.size W w3:=T.mono O.size;have aH:W2.heap.size≤w3.heap.size:=τ O.size T.size))
   exact⟨ax.from _,ac,⟨v,aw,by rw[hx.out];exact ah,trivial⟩,O.trans ac⟩
 case done =>
  rintro D' ys W hD rfl ⟨⟨v,U,aj,-⟩,O⟩ hK;have hc:=U.cell
  gi_wp2
  refine⟨by simp,.inl ⟨_,_,rfl,run_takeDeferred hK,?_⟩⟩;have a1:∀W':World,W'.ownsRow W2.heap.size 3 1 v (Qdf D I (upI D.q)).length ((Qdf D I (upI D.q)).map (Value.int .i64))→Own W' w.heap.size v (Qdf D I (upI D.q)):=fun W' aP=>by
   exact⟨aP.1,aP.2.imp id fun⟨g',cap,bh,h1,h2,r⟩=>⟨g',cap,bh,h1,τ aq h2,r⟩⟩
  refine⟨.tuple #[v,.int .i64 0],by simp[results,Tryz.results169,go_sem],v,rfl,?_,?_⟩
  ·exact a1 _ (ownsRow_putObj aj _ hK rfl)
  ·exact ap.trans ((O.trans (belowK_b (w:=W2) ρ W D' _ _ (by simp at hD;omega) hK rfl rfl)).mono aq)
 case stop =>
  rintro D' c J W _ _ h _;exact h.elim
end
end Go.Proofs
