/- Layer 5 of the program: combine. -/
import Derived.Test.YtogfekjbpcfgmaaGreatZtkGpoC
set_option maxRecDepth 100000
set_option maxHeartbeats 16000000
set_option linter.unusedVariables false
namespace Go.Proofs
open Go.RowKit Cw
def Qjm (D:Desc)(p:List Int)(a:Int)(q:List Int):Nat→R D:=fun i=>cfR D p i+eli D a*cfR D q i
def QeC (D:Desc)(p:List Int)(a:Int)(q:List Int):List Int:=Qep (fun i=>ci (Qjm D p a q i)) (max p.length q.length)
theorem Qku (D:Desc)(p:List Int)(a:Int)(q:List Int):cfR D (QeC D p a q)=Qjm D p a q :=
 QdC _ _ fun i h=>by unfold Qjm;rw[Qao D (by omega),Qao D (by omega),Qac,Qad]
theorem Qmy (D:Desc)(p:List Int)(a:Int)(q:List Int):(QeC D p a q).length≤max p.length q.length:=by unfold QeC;rw[QaH];exact QbY _ _
theorem QpJ {n k:Nat} {f:Nat→Int} (h:∀i,k≤i→f i=0):upd n k f=lst n f:=by
 unfold upd lst;refine List.map_congr_left fun i _=>?_
 by_cases e:i<k
 ·rw[if_pos e]
 ·rw[if_neg e,h i (by omega)]
theorem Qlx {n k:Nat} {f h:Nat→Int} (e:∀i,k≤i→h i=f i):mix n k f h=lst n f:=by
 unfold mix;exact Qay fun i _=>by
  by_cases I:i<k
  ·rw[if_pos I]
  ·rw[if_neg I,e i (by omega)]
def Qkv (l:List Int)(w:World)(e:Ending)(w':World):Prop :=
 ∃A c,e=.returned (.slice A l.length c)∧Own w' w.heap.size (.slice A l.length c) l∧Below w.heap.size w w'
theorem Own.of_take {w:World} {g B n N:Nat} {f:Nat→Int} (h:IB w g (lst n f))(I:N≤n)(J:B≤g)(O:n≤maxLen):Own w B (.slice (some ⟨g,0,none⟩) N n) (lst N f):=by
 unfold IB at h;refine⟨by simp[Qab],.inr ⟨g,n,((lst n f).map (Value.int .i64)).toArray,by rw[Qab],J,h,by rw[Qab];exact I,O,by simp[Qab],?_⟩⟩;rw[Qab,Nat.mul_one]
 show ((lst n f).map (Value.int .i64)).take N=_
 rw[←List.map_take,Qdp f I]
theorem Qkw (F:FD)(p q:List Int)(a:Int)(A1 A2:Option Addr)(c1 c2 g:Nat)(w:World)(hg:GF w w.heap.size g F)(a5:Rd w w.heap.size A1 p)(a6:Rd w w.heap.size A2 q)(bj:p.length≤70000)(bk:q.length≤70000) :
  Calls Tryz.prog 231 #[.pointer (some ⟨g,0,none⟩),.slice A1 p.length c1,.int .i64 a,.slice A2 q.length c2] w (Qkv (QeC F.z p a q) w):=by
 obtain⟨I,aP⟩:=ε (p.length);obtain⟨J,aQ⟩:=ε (q.length);obtain⟨T,aL⟩:=ε (cfI F.z p);obtain⟨X,aR⟩:=ε (fun i=>ci (Qjm F.z p a q i):Nat→Int)
 have a7:Hid (∀i,I≤i→T i=0):=fun i hi=>by rw[aL];exact Qua _ (by omega)
 have a8:Hid (∀i,J≤i→T i=X i):=fun i hi=>by
  rw[aL,aR];unfold Qjm;dsimp only;rw[Qao F.z (p:=q) (by omega),Qac,Qad];rfl
 have aO:Hid (QeC F.z p a q=lst (QeY X (max I J)) X):=by unfold Hid;rw[aR,aP,aQ];rfl
 have a9:Hid (∀k,ci (eli F.z (p[k]?.getD 0)+eli F.z 0)=T k):=fun k=>by rw[aL,QbC,Qad];rfl
 have ba:Hid (∀k,ci (eli F.z (T k)+eli F.z a*eli F.z (q[k]?.getD 0))=X k):=fun k=>by
  rw[aL,aR];unfold cfI Qjm;rw[Qam];rfl
 have bb:=η aP;have bc:=η aQ;rw[←aP,←aQ];have bl:=QaC I (by omega);have bm:=QaC J (by omega);have bo:I≤70000:=by omega
 have bp:J≤70000:=by omega
 clear aP aQ aL aR;rcases Nat.lt_or_ge I J with ap |ap
 ·have be:(I:Int)<(J:Int):=by omega
  have aD:Hid (max I J=J):=by unfold Hid;omega
  replace ap:=η ap;have hT:=fun A c W a b d=>η (QdP J X A c W a (by omega) b d)
  obtain⟨gb,af⟩:=ε (w.heap.size);obtain⟨Y,hY⟩:=ε (w.alloc (.cells (Array.replicate J (Value.int .i64 0)) 3));have aE:IB Y gb (upd J 0 T):=by rw[QaP,hY,af];exact IB.newz w J
  have aF:Below w.heap.size w Y:=by rw[hY];exact β
  have au:w.heap.size≤gb:=Nat.le_of_eq af.symm;have bf:gb≤w.heap.size:=Nat.le_of_eq af;replace hY:=η hY;replace af:=η af;go_enter Tryz.func231,Tryz.ntmps231;go_wp2_with fail;rw[←hY.out,←af.out];go_loopw [22] (fun i wr=>∃k:Nat,k≤I∧i=.int .i64 k∧IB wr gb (upd J k T)∧Below w.heap.size w wr) (fun i _=>I - (intOf i).toNat)
  case atStart=>exact⟨0,by omega,rfl,aE,aF⟩
  case round =>
   obtain⟨k,hk,rfl,ar,ai⟩:=hrel;obtain⟨w3,rfl⟩:=ε (wr:World);clear aE aF;by_cases aB:k<I
   ·have aT:(0:Int)≤(k:Int):=by omega
    have aU:(k:Int)<(I:Int):=by omega
    have al:k<J:=by have:=ap.out;omega
    have aV:(k:Int)<(J:Int):=by omega
    obtain⟨b,o,rfl,hb,hc⟩:=a5.at_ (by rw[←bb.out];exact aB:k<p.length);have hd:=(ai.cell (p:=⟨b,o+k,none⟩) hb).trans hc;have hA:=Qcf F (p[k]?.getD 0) 0 g w3 (hg.bm ai);rw[a9.out k]at hA;obtain⟨y,hy⟩:=ε (p[k]?.getD 0);obtain⟨v,U⟩:=ε (T k);rw[←hy]at hd hA;rw[←U]at hA;replace hA:=η hA;replace U:=η U;replace hy:=η hy;have aW:=ar.lt;clear hc;go_wp2_with fail;(with_reducible refine hA.out.mono ?_);rintro e w4 ⟨rfl,aM⟩;have aw:=ar.below aM aW;have am:=aw.cell (i:=k) (by rw[Qaz];exact al);have bg:=aw.frozen k;have aa:=aw.set_ k v;rw[U.out,QaY,←U.out]at aa;replace aa:=η aa;have ax:Below w.heap.size w (w4.setCell ⟨gb,k,none⟩ (.int .i64 v)):=(ζ ai aM).setCell (p:=⟨gb,k,none⟩) au _;go_wp2_with fail;go_roundw
    case rel=>exact⟨k+1,by omega,by go_num,aa.out,ax⟩
    case measure=>simp[intOf];omega
   ·obtain rfl:I=k:=by omega
    rw[QpJ a7.out,show lst J T=mix J 0 X T from (Qfv J X T).symm]at ar;go_wp2_with fail;go_loopw [36] (fun i wr=>∃k:Nat,k≤J∧i=.int .i64 k∧IB wr gb (mix J k X T)∧Below w.heap.size w wr) (fun i _=>J - (intOf i).toNat)
    case atStart=>exact⟨0,by omega,rfl,ar,ai⟩
    case round =>
     obtain⟨k,hk,rfl,aj,ad⟩:=hrel;obtain⟨w5,rfl⟩:=ε (wr:World);by_cases aB:k<J
     ·have aT:(0:Int)≤(k:Int):=by omega
      have aU:(k:Int)<(J:Int):=by omega
      have al:k<J:=by have:=ap.out;omega
      have aV:(k:Int)<(J:Int):=by omega
      obtain⟨b,o,rfl,hb,hc⟩:=a6.at_ (by rw[←bc.out];exact aB:k<q.length);have hd:=(ad.cell (p:=⟨b,o+k,none⟩) hb).trans hc;have hM:=QbZ F a (q[k]?.getD 0) g w5.drew (hg.bm ad).drew;have ac:=fun W h=>Qcf F (T k) (ci (eli F.z a*eli F.z (q[k]?.getD 0))) g W h
      rw[Qam,ba.out k]at ac;obtain⟨y,hy⟩:=ε (q[k]?.getD 0);obtain⟨x,hx⟩:=ε (T k);obtain⟨v,U⟩:=ε (X k);rw[←hy]at hd hM ac;rw[←hx,←U]at ac;obtain⟨z,hz⟩:=ε (ci (eli F.z a*eli F.z y));rw[←hz]at hM ac;have am:=aj.cell (i:=k) (by rw[Qce];exact al);rw[Qc2 X T al,←hx]at am;replace hM:=η hM;replace ac:=fun W h=>η (ac W h)
      replace hz:=η hz;replace hx:=η hx;replace U:=η U;replace hy:=η hy;have ay:=aj.lt;have aG:=(hg.bm ad).drew;clear hc;go_wp2_with fail;refine wp_region_held_drew (S:=fun w'=>True) (by kernel_rfl) (by (try dsimp only);all_goals trivial) (fun hHeld=>?_);refine tk 0 ?_;simp only[pS]
      refine tk 1 ?_;simp only[pS]
      refine tk 2 ?_;simp only[pS]
      refine tk 3 ?_;simp only[pS]
      refine tk 4 ?_;simp only[pS]
      refine tk 5 ?_;simp only[pS]
      refine tk 7 ?_;simp only[pS]
      refine tk 8 ?_;simp only[pS]
      refine tk 9 ?_;simp only[pS]
      refine wpAnyH_ready (rs:=[6,10]) (by kernel_rfl) (by simp) ?_;refine AllReadyH.cons (o:=⟨_,_,_,_,_,_⟩) rfl (fun K O=>?_) ?_
      all_goals first
       |(go_simp
         refine O.out _ _ (by (try dsimp only);all_goals trivial) (fun hHeld=>?_);clear O K;try simp only[pS]
         refine rd 10 fun K O=>?_
         go_simp;go_at_call 90;(with_reducible refine (hM).out.mono ?_);rintro e w6 ⟨rfl,V⟩;have aH:=(V.cell (p:=⟨gb,k,none⟩) ay).trans am;have aI:w5.heap.size≤w6.heap.size:=V.size;have aJ:=ac w6 (aG.bm V);go_wp2_with fail)
       |(refine AllReadyH.cons (o:=⟨_,_,_,_,_,_⟩) rfl (fun K O=>?_) AllReadyH.nil
         go_simp;go_at_call 90;(with_reducible refine (hM).out.mono ?_);rintro e w6 ⟨rfl,V⟩;have aH:=(V.cell (p:=⟨gb,k,none⟩) ay).trans am;have aI:w5.heap.size≤w6.heap.size:=V.size;have aJ:=ac w6 (aG.bm V);go_wp2_with fail;refine O.out _ _ (by (try dsimp only);all_goals trivial) (fun hHeld=>?_);clear O K;try simp only[pS]
         refine rd 6 fun K O=>?_
         go_simp)
      all_goals
       refine O.out _ _ (by (try dsimp only);all_goals trivial) (fun hHeld=>?_);clear O K;try simp only[pS]
       refine rd 11 fun K O=>?_
       go_simp;go_at_call 91;(with_reducible refine (aJ).out.mono ?_);rintro e w7 ⟨rfl,a2⟩;have aK:Below w5.heap.size w5 w7:=((Below.refl _ w5).drew.trans V).trans (a2.mono aI);have az:=aj.below aK ay;have aX:=az.cell (i:=k) (by rw[Qce];exact al);have aY:=az.frozen k;go_wp2_with fail;refine O.out _ _ (by (try dsimp only);all_goals trivial) (fun hHeld=>?_);clear O K;try simp only[pS]
       refine tk 12 ?_;simp only[pS]
       refine rd 13 fun K O=>?_
       go_simp;refine O.out _ _ (by (try dsimp only);all_goals trivial) (fun hHeld=>?_);clear O K;try simp only[pS]
       refine δ ?_;have aa:=az.set_ k v;rw[U.out,Qf0,←U.out]at aa;replace aa:=η aa;have ax:Below w.heap.size w (w7.setCell ⟨gb,k,none⟩ (.int .i64 v)):=(ζ ad aK).setCell (p:=⟨gb,k,none⟩) au _;clear aX aY aH am;go_wp2_with fail;go_roundw
       case rel=>exact⟨k+1,by omega,by go_num,aa.out,ax⟩
       case measure=>simp[intOf];omega
     ·obtain rfl:J=k:=by omega
      rw[Qlx a8.out]at aj;have aZ:=hT (some ⟨gb,0,none⟩) J w5 aj.rd ρ (by unfold maxLen;omega);have a0:=QbY X J;go_wp2_with fail;(with_reducible refine aZ.out.mono ?_);rintro e w8 ⟨rfl,rfl⟩;go_wp2_with fail;go_ret;refine⟨some ⟨gb,0,none⟩,J,by rw[aO.out,aD.out,Qab];rfl,by rw[aO.out,aD.out,Qab];exact Own.of_take aj a0 au (by unfold maxLen;omega),ad⟩
 ·have be:¬ (I:Int)<(J:Int):=by omega
  have bq:(J:Int)≤(I:Int):=by omega
  have aD:Hid (max I J=I):=by unfold Hid;omega
  replace ap:=η ap;have hT:=fun A c W a b d=>η (QdP I X A c W a (by omega) b d)
  obtain⟨gb,af⟩:=ε (w.heap.size);obtain⟨Y,hY⟩:=ε (w.alloc (.cells (Array.replicate I (Value.int .i64 0)) 3));have aE:IB Y gb (upd I 0 T):=by rw[QaP,hY,af];exact IB.newz w I
  have aF:Below w.heap.size w Y:=by rw[hY];exact β
  have au:w.heap.size≤gb:=Nat.le_of_eq af.symm;have bf:gb≤w.heap.size:=Nat.le_of_eq af;replace hY:=η hY;replace af:=η af;go_enter Tryz.func231,Tryz.ntmps231;go_wp2_with fail;rw[←hY.out,←af.out];go_loopw [22] (fun i wr=>∃k:Nat,k≤I∧i=.int .i64 k∧IB wr gb (upd I k T)∧Below w.heap.size w wr) (fun i _=>I - (intOf i).toNat)
  case atStart=>exact⟨0,by omega,rfl,aE,aF⟩
  case round =>
   obtain⟨k,hk,rfl,ar,ai⟩:=hrel;obtain⟨w3,rfl⟩:=ε (wr:World);clear aE aF;by_cases aB:k<I
   ·have aT:(0:Int)≤(k:Int):=by omega
    have aU:(k:Int)<(I:Int):=by omega
    have al:k<I:=by have:=ap.out;omega
    have aV:(k:Int)<(I:Int):=by omega
    obtain⟨b,o,rfl,hb,hc⟩:=a5.at_ (by rw[←bb.out];exact aB:k<p.length);have hd:=(ai.cell (p:=⟨b,o+k,none⟩) hb).trans hc;have hA:=Qcf F (p[k]?.getD 0) 0 g w3 (hg.bm ai);rw[a9.out k]at hA;obtain⟨y,hy⟩:=ε (p[k]?.getD 0);obtain⟨v,U⟩:=ε (T k);rw[←hy]at hd hA;rw[←U]at hA;replace hA:=η hA;replace U:=η U;replace hy:=η hy;have aW:=ar.lt;clear hc;go_wp2_with fail;(with_reducible refine hA.out.mono ?_);rintro e w4 ⟨rfl,aM⟩;have aw:=ar.below aM aW;have am:=aw.cell (i:=k) (by rw[Qaz];exact al);have bg:=aw.frozen k;have aa:=aw.set_ k v;rw[U.out,QaY,←U.out]at aa;replace aa:=η aa;have ax:Below w.heap.size w (w4.setCell ⟨gb,k,none⟩ (.int .i64 v)):=(ζ ai aM).setCell (p:=⟨gb,k,none⟩) au _;go_wp2_with fail;go_roundw
    case rel=>exact⟨k+1,by omega,by go_num,aa.out,ax⟩
    case measure=>simp[intOf];omega
   ·obtain rfl:I=k:=by omega
    rw[QpJ a7.out,show lst I T=mix I 0 X T from (Qfv I X T).symm]at ar;go_wp2_with fail;go_loopw [36] (fun i wr=>∃k:Nat,k≤J∧i=.int .i64 k∧IB wr gb (mix I k X T)∧Below w.heap.size w wr) (fun i _=>J - (intOf i).toNat)
    case atStart=>exact⟨0,by omega,rfl,ar,ai⟩
    case round =>
     obtain⟨k,hk,rfl,aj,ad⟩:=hrel;obtain⟨w5,rfl⟩:=ε (wr:World);by_cases aB:k<J
     ·have aT:(0:Int)≤(k:Int):=by omega
      have aU:(k:Int)<(J:Int):=by omega
      have al:k<I:=by have:=ap.out;omega
      have aV:(k:Int)<(I:Int):=by omega
      obtain⟨b,o,rfl,hb,hc⟩:=a6.at_ (by rw[←bc.out];exact aB:k<q.length);have hd:=(ad.cell (p:=⟨b,o+k,none⟩) hb).trans hc;have hM:=QbZ F a (q[k]?.getD 0) g w5.drew (hg.bm ad).drew;have ac:=fun W h=>Qcf F (T k) (ci (eli F.z a*eli F.z (q[k]?.getD 0))) g W h
      rw[Qam,ba.out k]at ac;obtain⟨y,hy⟩:=ε (q[k]?.getD 0);obtain⟨x,hx⟩:=ε (T k);obtain⟨v,U⟩:=ε (X k);rw[←hy]at hd hM ac;rw[←hx,←U]at ac;obtain⟨z,hz⟩:=ε (ci (eli F.z a*eli F.z y));rw[←hz]at hM ac;have am:=aj.cell (i:=k) (by rw[Qce];exact al);rw[Qc2 X T al,←hx]at am;replace hM:=η hM;replace ac:=fun W h=>η (ac W h)
      replace hz:=η hz;replace hx:=η hx;replace U:=η U;replace hy:=η hy;have ay:=aj.lt;have aG:=(hg.bm ad).drew;clear hc;go_wp2_with fail;refine wp_region_held_drew (S:=fun w'=>True) (by kernel_rfl) (by (try dsimp only);all_goals trivial) (fun hHeld=>?_);refine tk 0 ?_;simp only[pS]
      refine tk 1 ?_;simp only[pS]
      refine tk 2 ?_;simp only[pS]
      refine tk 3 ?_;simp only[pS]
      refine tk 4 ?_;simp only[pS]
      refine tk 5 ?_;simp only[pS]
      refine tk 7 ?_;simp only[pS]
      refine tk 8 ?_;simp only[pS]
      refine tk 9 ?_;simp only[pS]
      refine wpAnyH_ready (rs:=[6,10]) (by kernel_rfl) (by simp) ?_;refine AllReadyH.cons (o:=⟨_,_,_,_,_,_⟩) rfl (fun K O=>?_) ?_
      all_goals first
       |(go_simp
         refine O.out _ _ (by (try dsimp only);all_goals trivial) (fun hHeld=>?_);clear O K;try simp only[pS]
         refine rd 10 fun K O=>?_
         go_simp;go_at_call 90;(with_reducible refine (hM).out.mono ?_);rintro e w6 ⟨rfl,V⟩;have aH:=(V.cell (p:=⟨gb,k,none⟩) ay).trans am;have aI:w5.heap.size≤w6.heap.size:=V.size;have aJ:=ac w6 (aG.bm V);go_wp2_with fail)
       |(refine AllReadyH.cons (o:=⟨_,_,_,_,_,_⟩) rfl (fun K O=>?_) AllReadyH.nil
         go_simp;go_at_call 90;(with_reducible refine (hM).out.mono ?_);rintro e w6 ⟨rfl,V⟩;have aH:=(V.cell (p:=⟨gb,k,none⟩) ay).trans am;have aI:w5.heap.size≤w6.heap.size:=V.size;have aJ:=ac w6 (aG.bm V);go_wp2_with fail;refine O.out _ _ (by (try dsimp only);all_goals trivial) (fun hHeld=>?_);clear O K;try simp only[pS]
         refine rd 6 fun K O=>?_
         go_simp)
      all_goals
       refine O.out _ _ (by (try dsimp only);all_goals trivial) (fun hHeld=>?_);clear O K;try simp only[pS]
       refine rd 11 fun K O=>?_
       go_simp;go_at_call 91;(with_reducible refine (aJ).out.mono ?_);rintro e w7 ⟨rfl,a2⟩;have aK:Below w5.heap.size w5 w7:=((Below.refl _ w5).drew.trans V).trans (a2.mono aI);have az:=aj.below aK ay;have aX:=az.cell (i:=k) (by rw[Qce];exact al);have aY:=az.frozen k;go_wp2_with fail;refine O.out _ _ (by (try dsimp only);all_goals trivial) (fun hHeld=>?_);clear O K;try simp only[pS]
       refine tk 12 ?_;simp only[pS]
       refine rd 13 fun K O=>?_
       go_simp;refine O.out _ _ (by (try dsimp only);all_goals trivial) (fun hHeld=>?_);clear O K;try simp only[pS]
       refine δ ?_;have aa:=az.set_ k v;rw[U.out,Qf0,←U.out]at aa;replace aa:=η aa;have ax:Below w.heap.size w (w7.setCell ⟨gb,k,none⟩ (.int .i64 v)):=(ζ ad aK).setCell (p:=⟨gb,k,none⟩) au _;clear aX aY aH am;go_wp2_with fail;go_roundw
       case rel=>exact⟨k+1,by omega,by go_num,aa.out,ax⟩
       case measure=>simp[intOf];omega
     ·obtain rfl:J=k:=by omega
      rw[Qlx a8.out]at aj;have aZ:=hT (some ⟨gb,0,none⟩) I w5 aj.rd ρ (by unfold maxLen;omega);have a0:=QbY X I;go_wp2_with fail;(with_reducible refine aZ.out.mono ?_);rintro e w8 ⟨rfl,rfl⟩;go_wp2_with fail;go_ret;refine⟨some ⟨gb,0,none⟩,I,by rw[aO.out,aD.out,Qab];rfl,by rw[aO.out,aD.out,Qab];exact Own.of_take aj a0 au (by unfold maxLen;omega),ad⟩
end Go.Proofs
