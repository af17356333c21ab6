/- Layer 7 of the program: solve. -/
import Derived.Test.YtogfekjbpcfgmaaGreatZtkRowL
import Derived.Test.YtogfekjbpcfgmaaGreatZtkNrm
set_option maxRecDepth 100000
set_option maxHeartbeats 16000000
set_option linter.unusedVariables false
namespace Go.Proofs
open Go.RowKit Cw
open CField (inv)
section
variable {D:Desc} {w w':World} {L g n m:Nat} {q q':Option Nat} {i b c:Nat} {f:Nat→R D} {M:Nat→Nat→R D}
theorem QbR.uniq {b' c':Nat} {f':Nat→R D} (h:QbR w L g m q i b c f)(J:QbR w L g m q i b' c' f'):b'=b∧c'=c:=by
 have I:=h.hd;rw[J.hd]at I
 injection I with I
 injection I with I _ e3
 injection I with I
 injection I with I
 exact⟨I,e3⟩
theorem MP.again (h:MP w L g n m q M)(hi:i<n)(U:QbR w L g m q i b c (M i)):MP (w.setCell ⟨g,i,none⟩ (.slice (some ⟨b,0,none⟩) m c)) L g n m q M:=by
 obtain⟨T,B,C,J,V⟩:=h;refine⟨by simp only[World.setCell,Array.size_modify];exact T,B,C,fun t O=>?_,V⟩;by_cases e:t=i
 ·subst e;obtain⟨X,Y⟩:=U.uniq (J t O);have I:=J t O;rw[X,Y]at I ⊢;exact I.put T I.lt I.ne I.nq I.lo I.c1 I.c2 I.cells
 ·exact (J t O).other e
theorem MP.swap2 {k b' c':Nat} (h:MP w L g n m q M)(T:i<n)(J:k<n)(I:QbR w L g m q i b c (M i))(O:QbR w L g m q k b' c' (M k)) :
  MP ((w.setCell ⟨g,i,none⟩ (.slice (some ⟨b',0,none⟩) m c')).setCell ⟨g,k,none⟩ (.slice (some ⟨b,0,none⟩) m c)) L g n m q (swA i k M):=by
 by_cases e:k=i
 ·subst e;obtain⟨X,Y⟩:=I.uniq O;rw[X,Y,show swA k k M=M from funext fun t=>by unfold swA;split <;> simp_all];have U:=h.again J I;refine U.again J ?_;have V:=I.put h.1 I.lt I.ne I.nq I.lo I.c1 I.c2 I.cells;exact V
 ·exact h.swap T J e I O
end
structure SI (F:FD) (n m:Nat) (M:Nat→Nat→R F.z) (L g:Nat) (w:World) (c:Nat) (Mc:Nat→Nat→R F.z) (wr:World):Prop where
 mp:MP wr L g n m none Mc
 eqv:Qny n M Mc
 un:UnA n c Mc
 below:Below L w wr
def Qht (F:FD)(n:Nat)(M:Nat→Nat→R F.z)(L:Nat)(w:World)(e:Ending)(w':World):Prop :=
 Below L w w'∧((e=.returned (.tuple #[.slice none 0 0,.bool false])∧∃x,(∃j,j<n∧x j≠0)∧QqJ n M x) ∨
  (∃b x,e=.returned (.tuple #[.slice (some ⟨b,0,none⟩) n n,.bool true])∧w.heap.size≤b∧IB w' b (QaK F.z n x)∧(∀y,QwB n M y↔∀i,i<n→y i=x i)∧∀y,QqJ n M y→∀i,i<n→y i=0))
theorem QnB (F:FD)(n m:Nat)(bF:m=n+1)(M:Nat→Nat→R F.z)(g cl gf L:Nat)(w:World)(hg:GF w L gf F)(hm:MP w L g n m none M)(hL:L≤w.heap.size)(a3:L≤g)(hn:n≤60000) :
  Calls Tryz.prog 166 #[.pointer (some ⟨gf,0,none⟩),.slice (some ⟨g,0,none⟩) n cl] w (Qht F n M L w):=by
 have cm:=fun y W h=>η (QgL F y gf W h)
 have cn:=fun f a A1 c1 W h h1=>η (Qis F m f a A1 c1 gf W h h1 (by omega))
 have co:=fun x y W h=>η (QbZ F x y gf W h)
 have cq:=fun x y W h=>η (QgN F x y gf W h)
 have dg:=QaC n (by omega);have cr:n<m:=by omega
 have dh:m≤60001:=by omega
 replace bF:=η bF;have di:(n:Int)<(m:Int):=by omega
 go_enter Tryz.func166,Tryz.ntmps166;go_wp2_with fail;go_loopw [20] (fun cS wr=>∃ (c:Nat) (Mc:Nat→Nat→R F.z),c≤n∧cS=.int .i64 c∧Hid (SI F n m M L g w c Mc wr)) (fun cS _=>n - (intOf cS).toNat)
 case atStart=>exact⟨0,M,by omega,rfl,⟨hm,Qny.refl _ _,fun j hj=>absurd hj (by omega),κ⟩⟩
 case round =>
  clear hm;obtain⟨w1,rfl⟩:=ε (wr:World);obtain⟨c,Mc,hc,rfl,T⟩:=hrel;have ax:=T.out.below;by_cases ah:c<n
  ·have c0:(0:Int)≤(c:Int):=by omega
   have c1:(c:Int)<(n:Int):=by omega
   have c2:(c:Int)<(m:Int):=by omega
   have a4:c<m:=by omega
   go_wp2_with fail;go_loop [8] (fun J=>∃p:Nat,c≤p∧p≤n∧J=.int .i64 p∧Hid (∀t,c≤t→t<p→Mc t c=0)) (fun J=>n - (intOf J).toNat)
   case atStart=>exact⟨c,by omega,by omega,rfl,fun t h1 h2=>absurd h2 (by omega)⟩
   case round =>
    obtain⟨p,cV,ds,rfl,hz⟩:=hrel;by_cases hp:p<n
    ·obtain⟨bp,cp,ad,-⟩:=T.out.mp.at_ hp;have a5:=ad.hd;have a6:=ad.fz;have bH:=(ad.cells c a4).1;have p0:(0:Int)≤(p:Int):=by omega
     have p1:(p:Int)<(n:Int):=by omega
     obtain⟨y,hy⟩:=ε (ci (Mc p c));rw[←hy]at bH;by_cases aE:Mc p c=0
     ·have bI:(y==0)=true:=by rw[beq_iff_eq,hy];exact Qaq.2 aE
      have cs:Hid (∀t,c≤t→t<p+1→Mc t c=0):=fun t h1 h2=>by
       by_cases e:t=p
       ·rw[e];exact aE
       ·exact hz.out t h1 (by omega)
      replace hy:=η hy;clear aE hz ad a6;go_wp2_with fail;go_round
      case rel=>exact⟨p+1,by omega,by omega,by go_num,cs⟩
      case measure=>simp[intOf];omega
     ·have bI:(y==0)=false:=by rw[beq_eq_false_iff_ne,hy];exact fun e=>aE (Qaq.1 e)
      have ct:((p:Int)==(n:Int))=false:=by rw[beq_eq_false_iff_ne];omega
      obtain⟨bc,cc,X,-⟩:=T.out.mp.at_ ah;have bJ:=X.hd;have cu:=X.fz;obtain⟨w5,al⟩:=ε ((w1.setCell ⟨g,c,none⟩ (.slice (some ⟨bp,0,none⟩) m cp)).drew);have a7:∃v,w5.cell? ⟨g,p,none⟩=some v:=by
       rw[al];by_cases e:p=c
       ·subst e;exact⟨_,World.cell?_setCell_same _ _ _ a5⟩
       ·exact⟨_,(QdK e).trans a5⟩
      obtain⟨du,a7⟩:=a7;have cv:w5.frozen? ⟨g,p,none⟩=false:=by rw[al];simp[go_sem,a6]
      obtain⟨w6,ay⟩:=ε (w5.setCell ⟨g,p,none⟩ (.slice (some ⟨bc,0,none⟩) m cc));have a8:Hid (MP w6 L g n m none (swA c p Mc)):=by
       rw[ay,al];exact (T.out.mp.drew.swap2 ah hp ⟨X.hd,X.fz,X.lt,X.ne,X.nq,X.lo,X.c1,X.c2,X.cells⟩ ⟨ad.hd,ad.fz,ad.lt,ad.ne,ad.nq,ad.lo,ad.c1,ad.c2,ad.cells⟩)
      have aS:Below L w w6:=by
       rw[ay,al];exact (ax.setCell (p:=⟨g,c,none⟩) a3 _).drew.setCell (p:=⟨g,p,none⟩) a3 _
      have a9:L≤w6.heap.size:=τ hL aS.size;have bK:Hid (Qny n M (swA c p Mc)):=T.out.eqv.trans (Qt2 ah hp Mc);have bL:Hid (UnA n c (swA c p Mc)):=T.out.un.sw ah cV hp;have ba:Hid (swA c p Mc c c≠0):=by unfold Hid swA;rw[if_pos rfl];exact aE
      replace al:=η al;replace ay:=η ay;replace hy:=η hy;clear aE hz ad X ax;go_wp2_with fail;refine wp_region_held_drew (S:=fun w'=>True) (by kernel_rfl) (by (try dsimp only);all_goals trivial) (fun hHeld=>?_);refine tk 0 ?_;try simp only[J]
      refine tk 1 ?_;try simp only[J]
      refine tk 2 ?_;try simp only[J]
      refine tk 3 ?_;try simp only[J]
      refine tk 4 ?_;try simp only[J]
      refine tk 5 ?_;try simp only[J]
      refine tk 6 ?_;try simp only[J]
      refine tk 8 ?_;try simp only[J]
      refine tk 9 ?_;try simp only[J]
      refine tk 10 ?_;try simp only[J]
      refine wpAnyH_ready (rs:=[7,11]) (by kernel_rfl) (by simp) ?_;refine AllReadyH.cons (o:=⟨_,_,_,_,_,_⟩) rfl (fun K O=>?_) ?_
      all_goals first
       |(go_simp
         refine O.out _ _ (by (try dsimp only);all_goals trivial) (fun hHeld=>?_);clear O K;try simp only[J]
         refine wpAnyH_ready (rs:=[11]) (by kernel_rfl) (by simp) ?_)
       |(refine AllReadyH.cons (o:=⟨_,_,_,_,_,_⟩) rfl (fun K O=>?_) AllReadyH.nil
         go_simp;refine O.out _ _ (by (try dsimp only);all_goals trivial) (fun hHeld=>?_);clear O K;try simp only[J]
         refine wpAnyH_ready (rs:=[7]) (by kernel_rfl) (by simp) ?_)
      all_goals
       refine AllReadyH.cons (o:=⟨_,_,_,_,_,_⟩) rfl (fun K O=>?_) AllReadyH.nil;go_simp;refine O.out _ _ (by (try dsimp only);all_goals trivial) (fun hHeld=>?_);clear O K;try simp only[J]
       refine tk 12 ?_;try simp only[J]
       refine rd 13 fun K O=>?_
       go_simp;rw[←al.out];refine O.out _ _ (by (try dsimp only);all_goals trivial) (fun hHeld=>?_);clear O K;try simp only[J]
       refine tk 14 ?_;try simp only[J]
       refine rd 15 fun K O=>?_
       go_simp;rw[←ay.out];refine O.out _ _ (by (try dsimp only);all_goals trivial) (fun hHeld=>?_);clear O K;try simp only[J]
       refine δ ?_;clear a5 a6 bJ cu a7 cv bH bI ct T al ay hy;generalize swA c p Mc=M6 at *;obtain⟨b7,c7,bv,-⟩:=a8.out.at_ ah;have cw:=bv.hd;have bM:=(bv.cells c a4).1;have cx:=(hg.below aS).more a9;have aq:=(cm (ci (M6 c c)) w6 cx).out;rw[Qam]at aq;obtain⟨y7,bb⟩:=ε (ci (M6 c c));rw[←bb]at bM aq;obtain⟨z7,aT⟩:=ε (ci (inv (M6 c c)));rw[←aT]at aq;replace aq:=η aq;replace bb:=η bb;replace aT:=η aT;clear bv;go_wp2_with fail;(with_reducible refine aq.out.mono ?_);rintro e w7 ⟨⟨t7,rfl⟩,bC⟩;have aU:=η (a8.out.below bC ρ);have be:=aS.trans (bC.mono a9);have bf:L≤w7.heap.size:=τ a9 bC.size;obtain⟨b8,c8,aZ,-⟩:=aU.out.at_ ah;have bN:=aZ.hd;have bO:=η (cn (M6 c) z7 (some ⟨b8,0,none⟩) c8 w7 ((hg.below be).more bf) aZ.rd);have bg:=aU.out.1;have bP:=aZ.fz;clear cw bM aZ;go_wp2_with fail;(with_reducible refine bO.out.out.mono ?_);rintro e w8 ⟨g8,rfl,c9,da,a1⟩;rw[Qae];have cy:=(a1.cell (p:=⟨g,c,none⟩) bg).trans bN;have cz:=(a1.frozen (p:=⟨g,c,none⟩) bg).trans bP;have aF:=aU.out.putNew ah a1 da c9 bf (by simp) (by unfold maxLen;omega);rw[show QgO M6 c (fun j=>eli F.z z7*M6 c j)=scA c (inv (M6 c c)) M6 from funext fun t=>funext fun j=>by
        rw[aT.out,Qam];unfold QgO scA;by_cases e:t=c <;> simp[e]]at aF
       replace aF:=η aF;have bh:Below L w (w8.setCell ⟨g,c,none⟩ (.slice (some ⟨g8,0,none⟩) m m)):=(be.trans (a1.mono bf)).setCell (p:=⟨g,c,none⟩) a3 _;have bQ:Hid (Qny n M (scA c (inv (M6 c c)) M6)):=bK.out.trans (Qt3 (Qby ba.out) M6);have bR:Hid (UnA n c (scA c (inv (M6 c c)) M6)):=bL.out.sc ah;have bS:Hid (CoA c 0 (scA c (inv (M6 c c)) M6)):=CoA.zero (Qt5 ba.out);clear bN bP aU a8 bK bL ba bO aq be aS bg;go_wp2_with fail;clear cy cz;generalize scA c (inv (M6 c c)) M6=M9 at *;generalize w8.setCell ⟨g,c,none⟩ (.slice (some ⟨g8,0,none⟩) m m)=w9 at *;have cA:L≤w9.heap.size:=τ hL bh.size;go_loopw [80] (fun iS wr=>∃ (i:Nat) (I:Nat→Nat→R F.z),i≤n∧iS=.int .i64 i∧Hid (SI F n m M L g w c I wr)∧Hid (CoA c i I)) (fun iS _=>n - (intOf iS).toNat)
       case atStart=>exact⟨0,M9,by omega,rfl,⟨aF.out,bQ.out,bR.out,bh⟩,bS⟩
       case round =>
        clear aF bQ bR bS bh cA;obtain⟨w2,rfl⟩:=ε (wr:World);obtain⟨i,I,hi,rfl,T,bw⟩:=hrel;by_cases ch:i<n
        ·have i0:(0:Int)≤(i:Int):=by omega
         have i1:(i:Int)<(n:Int):=by omega
         obtain⟨U,b9,af,ar⟩:=T.out.mp.at_ ch;have bT:=af.hd;have bj:=(af.cells c a4).1;obtain⟨a,ha⟩:=ε (ci (I i c));rw[←ha]at bj;have cD:(i=c∨I i c=0)∨(i≠c∧I i c≠0):=by
          by_cases e1:i=c
          ·exact .inl (.inl e1)
          ·by_cases e2:I i c=0
           ·exact .inl (.inr e2)
           ·exact .inr ⟨e1,e2⟩
         rcases cD with a2 |⟨aC,cg⟩
         ·have aV:Hid (CoA c (i+1) I):=bw.out.skip a2;by_cases e1:i=c
          ·have bU:((i:Int) !=(c:Int))=false:=by rw[bne_eq_false_iff_eq,e1]
           replace e1:=η e1;replace ha:=η ha;replace ar:=η ar;clear a2 af;go_wp2_with fail;go_roundw
           case rel=>exact⟨i+1,I,by omega,by go_num,T,aV⟩
           case measure=>simp[intOf];omega
          ·have bU:((i:Int) !=(c:Int))=true:=by rw[bne_iff_ne];omega
           have cE:(a !=0)=false:=by rw[bne_eq_false_iff_eq,ha];exact Qaq.2 (a2.resolve_left e1)
           replace e1:=η e1;replace ha:=η ha;replace ar:=η ar;clear a2 af;go_wp2_with fail;go_roundw
           case rel=>exact⟨i+1,I,by omega,by go_num,T,aV⟩
           case measure=>simp[intOf];omega
         ·have bU:((i:Int) !=(c:Int))=true:=by rw[bne_iff_ne];omega
          have cE:(a !=0)=true:=by rw[bne_iff_ne,ha];exact fun e=>cg (Qaq.1 e)
          obtain⟨bc,cc,X,-⟩:=T.out.mp.at_ ah;have cF:bc≠U:=T.out.mp.apart ch ah (fun e=>aC e.symm) af X;have bJ:=X.hd;have bk:=af.lt;have bV:=af.ne;have bW:=af.lo;have cG:=T.out.mp.1;have bl:=T.out.below;have cH:L≤w2.heap.size:=τ hL bl.size;have cI:Hid (∀j,j<m→w2.cell? ⟨U,j,none⟩=some (.int .i64 (ci (I i j)))∧w2.frozen? ⟨U,j,none⟩=false):=af.cells;have cJ:Hid (∀j,j<m→w2.cell? ⟨bc,j,none⟩=some (.int .i64 (ci (I c j)))):=fun j hj=>(X.cells j hj).1
          have cK:Hid (eli F.z a=I i c):=by unfold Hid;rw[ha,Qam]
          replace ha:=η ha;replace ar:=η ar;clear af X cg;go_wp2_with fail;go_loopw [102] (fun jS wr=>∃j:Nat,j≤m∧jS=.int .i64 j∧Hid (w2.grownBy wr (some U))∧Hid (∀t,t<m→wr.cell? ⟨U,t,none⟩=some (.int .i64 (ci (if t<j then I i t - I i c*I c t else I i t)))∧wr.frozen? ⟨U,t,none⟩=false)) (fun jS _=>m - (intOf jS).toNat)
          case atStart=>exact⟨0,by omega,rfl,World.grownBy.refl _ _,fun t ht=>by rw[if_neg (Nat.not_lt_zero _)];exact cI.out t ht⟩
          case round =>
           obtain⟨w3,rfl⟩:=ε (wr:World);obtain⟨j,hj,rfl,av,bx⟩:=hrel;by_cases cj:j<m
           ·have j0:(0:Int)≤(j:Int):=by omega
            have j1:(j:Int)<(m:Int):=by omega
            have bm:=av.out.size;have am:U<w3.heap.size:=θ bk bm;have an:g<w3.heap.size:=θ cG bm;have bX:=bl.trans (Qhn av.out bW bk);have bY:L≤w3.heap.size:=τ cH bm;have au:=av.out.cell bT (fun e=>bV (by injection e with e;exact e.symm));have cL:=av.out.cell (cJ.out j cj) (fun e=>cF (by injection e));obtain⟨aN,bz⟩:=bx.out j cj;rw[if_neg (Nat.lt_irrefl _)]at aN;obtain⟨y1,aI⟩:=ε (ci (I i j));obtain⟨y2,aJ⟩:=ε (ci (I c j));obtain⟨y3,aK⟩:=ε (ci (I i c*I c j));obtain⟨y4,aW⟩:=ε (ci (I i j - I i c*I c j));rw[←aI]at aN;rw[←aJ]at cL;have aG:=(co a y2 w3.drew ((hg.below bX).more bY).drew).out;rw[cK.out,aJ,Qam,←aJ,←aK]at aG;have aH:=fun W h=>(cq y1 y3 W h).out
            rw[aI,aK,Qam,Qam,←aI,←aK,←aW]at aH;have bZ:=(hg.below bX).more bY;replace aG:=η aG;replace aH:=fun W h=>η (aH W h)
            replace aI:=η aI;replace aJ:=η aJ;replace aK:=η aK;replace aW:=η aW;have bo:=η au;go_wp2_with fail;refine wp_region_held_drew (S:=fun w'=>w'.cell? ⟨g,i,none⟩=some (.slice (some ⟨U,0,none⟩) m b9)) (by kernel_rfl) (by (try dsimp only);exact bo.out) (fun hHeld=>?_);refine tk 0 ?_;try simp only[J]
            refine tk 1 ?_;try simp only[J]
            refine tk 2 ?_;try simp only[J]
            refine tk 3 ?_;try simp only[J]
            refine tk 4 ?_;try simp only[J]
            refine tk 5 ?_;try simp only[J]
            refine tk 6 ?_;try simp only[J]
            refine tk 7 ?_;try simp only[J]
            refine tk 8 ?_;try simp only[J]
            refine tk 9 ?_;try simp only[J]
            refine tk 10 ?_;try simp only[J]
            refine tk 11 ?_;try simp only[J]
            refine tk 13 ?_;try simp only[J]
            refine tk 14 ?_;try simp only[J]
            refine tk 15 ?_;try simp only[J]
            refine wpAnyH_ready (rs:=[12,16]) (by kernel_rfl) (by simp) ?_;refine AllReadyH.cons (o:=⟨_,_,_,_,_,_⟩) rfl (fun K O=>?_) ?_
            all_goals first
             |(go_simp
               refine O.out _ _ (by (try dsimp only);first |exact bo.out |exact (V.cell (p:=⟨g,i,none⟩) an).trans au) (fun hHeld=>?_);clear O K;try simp only[J]
               refine rd 16 fun K O=>?_
               go_simp;go_at_call 90;(with_reducible refine (aG).out.mono ?_);rintro e w4 ⟨rfl,V⟩;have bq:=(V.cell (p:=⟨U,j,none⟩) am).trans aN;have br:=(V.frozen (p:=⟨U,j,none⟩) am).trans bz;have az:w3.heap.size≤w4.heap.size:=V.size;have b0:=η (aH w4 (bZ.drew.bm V));go_wp2_with fail;refine O.out _ _ (by (try dsimp only);exact (V.cell (p:=⟨g,i,none⟩) an).trans au) (fun hHeld=>?_))
             |(refine AllReadyH.cons (o:=⟨_,_,_,_,_,_⟩) rfl (fun K O=>?_) AllReadyH.nil
               go_simp;go_at_call 90;(with_reducible refine (aG).out.mono ?_);rintro e w4 ⟨rfl,V⟩;have bq:=(V.cell (p:=⟨U,j,none⟩) am).trans aN;have br:=(V.frozen (p:=⟨U,j,none⟩) am).trans bz;have az:w3.heap.size≤w4.heap.size:=V.size;have b0:=η (aH w4 (bZ.drew.bm V));go_wp2_with fail;refine O.out _ _ ((V.cell (p:=⟨g,i,none⟩) an).trans au) fun hHeld=>?_;clear O K;try simp only[J]
               refine rd 12 fun K O=>?_
               go_simp;refine O.out _ _ (by (try dsimp only);first |exact bo.out |exact (V.cell (p:=⟨g,i,none⟩) an).trans au) (fun hHeld=>?_))
            all_goals
             clear O K;try simp only[J]
             refine rd 17 fun K O=>?_
             go_simp;go_at_call 34;(with_reducible refine (b0.out).out.mono ?_);rintro e w5 ⟨rfl,aO⟩;have cM:=(aO.cell (p:=⟨U,j,none⟩) (θ am az)).trans bq;have cN:=(aO.frozen (p:=⟨U,j,none⟩) (θ am az)).trans br;go_wp2_with fail;refine O.out _ _ ((aO.cell (p:=⟨g,i,none⟩) (θ an az)).trans ((V.cell (p:=⟨g,i,none⟩) an).trans au)) fun hHeld=>?_;clear O K;try simp only[J]
             refine tk 18 ?_;try simp only[J]
             refine rd 19 fun K O=>?_
             go_simp;refine O.out _ _ ((World.cell?_setCell_far _ _ _ _ bV).trans ((aO.cell (p:=⟨g,i,none⟩) (θ an az)).trans ((V.cell (p:=⟨g,i,none⟩) an).trans au))) fun hHeld=>?_;clear O K;try simp only[J]
             refine δ ?_;have bs:Below w3.heap.size w3 w5:=((Below.refl w3.heap.size w3).drew.trans V).trans (aO.mono az);have cO:Hid (w2.grownBy (w5.setCell ⟨U,j,none⟩ (.int .i64 y4)) (some U)):=(av.out.trans ((Qbr bs ρ).but _)).trans (QbB w5 ⟨U,j,none⟩ _);have cP:Hid (∀t,t<m→(w5.setCell ⟨U,j,none⟩ (.int .i64 y4)).cell? ⟨U,t,none⟩=some (.int .i64 (ci (if t<j+1 then I i t - I i c*I c t else I i t)))∧(w5.setCell ⟨U,j,none⟩ (.int .i64 y4)).frozen? ⟨U,t,none⟩=false):=fun t ht=>by
              obtain⟨h1,h2⟩:=bx.out t ht;have b1:=(bs.cell (p:=⟨U,t,none⟩) am).trans h1;have cQ:=(bs.frozen (p:=⟨U,t,none⟩) am).trans h2;refine⟨?_,by simp[go_sem,cQ]⟩;by_cases e:t=j
              ·subst e;rw[World.cell?_setCell_same _ _ _ b1,if_pos (Nat.lt_succ_self _),aW.out]
              ·rw[QdK e,b1];by_cases e2:t<j
               ·rw[if_pos e2,if_pos (by omega)]
               ·rw[if_neg e2,if_neg (by omega)]
             clear cM cN bq br aN bz;go_wp2_with fail;go_roundw
             case rel=>exact⟨j+1,by omega,by go_num,cO,cP⟩
             case measure=>simp[intOf];omega
           ·obtain rfl:j=m:=by omega
            have bt:Hid (SI F n j M L g w c (elA i c (I i c) I) w3):=by
             have h1:=ar.out w3 (fun t=>I i t - I i c*I c t) av.out fun t ht=>by
              have:=bx.out t ht
              rwa [if_pos ht]at this
             rw[show QgO I i (fun t=>I i t - I i c*I c t)=elA i c (I i c) I from funext fun t=>funext fun s=>by
              unfold QgO elA;by_cases e:t=i <;> simp[e]]at h1
             exact⟨h1,T.out.eqv.trans (Qt4 ah aC _ _),T.out.un.el ah,bl.trans (Qhn av.out bW bk)⟩
            have aV:Hid (CoA c (i+1) (elA i c (I i c) I)):=bw.out.el aC;go_wp2_with fail;go_roundw
            case rel=>exact⟨i+1,_,by omega,by go_num,bt,aV⟩
            case measure=>simp[intOf];omega
        ·obtain rfl:i=n:=by omega
         have bt:Hid (SI F i m M L g w (c+1) I w2):=⟨T.out.mp,T.out.eqv,T.out.un.next bw.out,T.out.below⟩;go_wp2_with fail;go_roundw
         case rel=>exact⟨c+1,_,by omega,by go_num,bt⟩
         case measure=>simp[intOf];omega
    ·obtain rfl:p=n:=by omega
     have bu:Hid (Qht F p M L w (.returned (.tuple #[.slice none 0 0,.bool false])) w1):=⟨ax,.inl ⟨rfl,by
      obtain⟨x,h1,h2⟩:=Qvz T.out.un ah (fun t h1 h2=>hz.out t h1 h2);exact⟨x,h1,(T.out.eqv.2 x).2 h2⟩⟩⟩
     go_wp2_with fail;go_ret2;exact bu.out
  ·obtain rfl:c=n:=by omega
   obtain⟨f,hf⟩:=ε (fun i=>ci (Mc i c):Nat→Int)
   obtain⟨gb,aL⟩:=ε (w1.heap.size);obtain⟨Y,hY⟩:=ε (w1.alloc (.cells (Array.replicate c (Value.int .i64 0)) 3));have ao:IB Y gb (upd c 0 f):=by rw[QaP,hY,aL];exact IB.newz w1 c
   have b2:Below w1.heap.size w1 Y:=by rw[hY];exact β
   have b3:w1.heap.size≤gb:=Nat.le_of_eq aL.symm;have cR:L≤w1.heap.size:=τ hL ax.size;have cT:w.heap.size≤gb:=τ ax.size b3;replace hY:=η hY;go_wp2_with fail;rw[←hY.out];simp only[←aL];replace aL:=η aL;replace hf:=η hf;go_loopw [133] (fun iS wr=>∃i:Nat,i≤c∧iS=.int .i64 i∧Hid (IB wr gb (upd c i f))∧Below w1.heap.size w1 wr) (fun iS _=>c - (intOf iS).toNat)
   case atStart=>exact⟨0,by omega,rfl,ao,b2⟩
   case round =>
    clear ao b2 hY;obtain⟨w2,rfl⟩:=ε (wr:World);obtain⟨i,hi,rfl,ao,bB⟩:=hrel;by_cases aC:i<c
    ·have i0:(0:Int)≤(i:Int):=by omega
     have i1:(i:Int)<(c:Int):=by omega
     have dn:(0:Int)≤(c:Int):=by omega
     obtain⟨U,b9,af,-⟩:=(T.out.mp.below bB ρ).at_ aC;have bT:=af.hd;have bj:=(af.cells c cr).1;obtain⟨y,hy⟩:=ε (f i);rw[show ci (Mc i c)=f i from by rw[hf.out],←hy]at bj;have b4:i<(upd c i f).length:=by rw[Qaz];exact aC
     have dp:=ao.out.cell b4;have dq:=ao.out.frozen i;have aM:=ao.out.set_ i y;rw[hy,QaY]at aM;replace aM:=η aM;have cU:Hid (Below w1.heap.size w1 (w2.setCell ⟨gb,i,none⟩ (.int .i64 y))):=bB.setCell (p:=⟨gb,i,none⟩) b3 _;rw[←hy]at aM;replace hy:=η hy;clear b4 af;go_wp2_with fail;go_roundw
     case rel=>exact⟨i+1,by omega,by go_num,aM,cU.out⟩
     case measure=>simp[intOf];omega
    ·obtain rfl:i=c:=by omega
     rw[QaR]at ao;have bu:Hid (Qht F i M L w (.returned (.tuple #[.slice (some ⟨gb,0,none⟩) i i,.bool true])) w2) :=
      ⟨ax.trans (bB.mono cR),.inr ⟨gb,fun t=>Mc t i,rfl,cT,by have:=ao.out;rw[hf.out]at this;exact this,
       fun y=>(T.out.eqv.1 y).trans (T.out.un.sol y),fun y hk=>T.out.un.ker ((T.out.eqv.2 y).1 hk)⟩⟩
     go_wp2_with fail;go_ret2;exact bu.out
end Go.Proofs
