/- The reference's elimination. -/
import Derived.Deep.CutRange
import Derived.IntWalk
import Derived.Test.YtogfekjbpcfgmaaGreatZtkMatC
set_option maxRecDepth 100000
set_option maxHeartbeats 16000000
set_option linter.unusedVariables false
namespace Go.Proofs
open Go.RowKit Cw
open Cw.CField (inv)
theorem MB.entry {D:Desc} {w:World} {L g n m:Nat} {q:Option Nat} {M:Nat→Nat→R D} (h:MB w L g n q (Qaw D m M)){i j:Nat} (Y:i<n)(O:j<m) :
  ∃b o J,w.cell? ⟨g,i,none⟩=some (.slice (some ⟨b,o,none⟩) m J)∧w.frozen? ⟨g,i,none⟩=false∧w.cell? ⟨b,o+j,none⟩=some (.int .i64 (ci (M i j)))∧b<w.heap.size∧b≠g∧q≠some b∧Rd w w.heap.size (some ⟨b,o,none⟩) (QaK D m (M i))∧m≤J∧J≤maxLen∧L≤b:=by
 obtain⟨Ai,c,T,h2,U,V,h5,h6⟩:=h.2 i Y;have aa:=U;obtain⟨b,o,rfl,hb,X⟩:=U.at_ (k:=j) (by rw[Qba];exact O);rw[Qkj _ _ _ O]at X;rw[Qba]at T V;have I:=h6 (List.length_pos_iff.1 (by rw[Qba];omega)) _ rfl;exact⟨b,o,c,T,h2,X,hb,I.1,I.2.1,aa,V,h5,I.2.2⟩
theorem MB.put {D:Desc} {w:World} {L g n m:Nat} {q:Option Nat} {M:Nat→Nat→R D} (h:MB w L g n q (Qaw D m M)){i:Nat} (I:i<n){b o c:Nat} {f:Nat→R D} (J:Rd w w.heap.size (some ⟨b,o,none⟩) (QaK D m f))(O:m≤c)(T:c≤maxLen)(U:b≠g)(V:q≠some b)(X:L≤b) :
  MB (w.setCell ⟨g,i,none⟩ (.slice (some ⟨b,o,none⟩) m c)) L g n q (Qaw D m (QgO M i f)):=by
 have k:=h.set I J (by rw[Qae];exact O) T (fun _ a e=>by cases e;exact⟨U,V,X⟩);rw[Qae,Qns]at k;exact k
def Qid (l:List Nat):List Int:=l.map fun k:Nat=>(k:Int)
def Qjn (F:FD)(n m O:Nat)(M:Nat→Nat→R F.z)(w:World)(e:Ending)(w':World):Prop :=
 ∃I cl J,e=.returned (.tuple #[.slice I n cl,J])∧Below w.heap.size w w'∧n≤cl∧cl≤maxLen∧Own w' w.heap.size J (Qid (elS n M O).2) ∧
  (0<n→∃g,I=some ⟨g,0,none⟩∧w.heap.size+1≤g∧MB w' (w.heap.size+1) g n J.ownBlock (Qaw F.z m (elS n M O).1))∧(n=0→I=none∧cl=0)
theorem QpK (F:FD)(n m ay:Nat)(M:Nat→Nat→R F.z)(A Ar:Option Addr)(c cr:Nat)(w:World)(hr:Rd w w.heap.size A (Qan F.z))(b9:RdM w w.heap.size Ar n (Qaw F.z m M))(hn:n≤1000000)(hm:m≤70000)(dL:ay≤m)(cY:0<n) :
  Calls Tryz.prog 159 #[.agg #[.int .i64 F.p,.int .i64 F.m,.slice A F.mod.length c],.slice Ar n cr,.int .i64 ay] w (Qjn F n m ay M w):=by
 have cd:=fun W h=>η (Qkx n (Qaw F.z m M) Ar cr W h hn (fun i _=>by unfold Qaw;rw[Qae];omega))
 have cZ:=fun y W h=>η (Qe7 F y A c W h)
 have c3:=fun y W=>η (Qhg F.z y A F.mod.length c W)
 have c4:=fun f a A1 c1 W h O=>η (QnL F.z m f a A A1 c c1 W h O hm)
 have c5:=fun f h a A1 A2 c1 c2 W h0 O h2=>η (Qgc F.z m f h a A A1 A2 c c1 c2 W h0 O h2 hm)
 have ce:=η (Bx.new w F.z A F.mod.length c 24);have bb:Below w.heap.size w (w.alloc (.cells #[.int .i64 F.p,.int .i64 F.m,.slice A F.mod.length c] 24)):=β;go_enter Tryz.func159,Tryz.ntmps159;go_wp2_with fail;(with_reducible refine (cd _ (b9.bm bb)).out.mono ?_);rintro e w1 ⟨v,rfl,cV,bX,-⟩;obtain⟨g,cl,rfl,dh,ct,cu,am⟩:=cV.mb cY;rw[World.size_alloc]at am;have cf:=ζ bb bX;have cg:=ce.out.below bX (by simp);rw[World.size_alloc]at dh;have Y:w.heap.size<g:=by omega
 clear cV bX ce bb cd b9;go_wp2_with fail;go_loopw [11,10,9,12,13] (fun cS aS pv _ _ wr=>∃j:Nat,j≤ay∧cS=.int .i64 j∧aS=.int .i64 (elS n M j).2.length∧Own wr (w.heap.size+1) pv (Qid (elS n M j).2)∧pv.ownBlock≠some g∧MB wr (w.heap.size+1) g n pv.ownBlock (Qaw F.z m (elS n M j).1)∧Bx wr w.heap.size F.z A F.mod.length c∧Below w.heap.size w wr) (fun cS _ _ _ _ _=>ay - (intOf cS).toNat)
 case atStart=>exact⟨0,by omega,rfl,rfl,Own.nil _ _,by simp[Value.ownBlock],am,cg,cf⟩
 case round =>
  clear am cg cf;obtain⟨wo,rfl⟩:=ε (wr:World);obtain⟨j,hj,rfl,rfl,aI,aA,am,bN,bj⟩:=hrel;have ch:=Qgu n M j;obtain⟨S,hS⟩:=ε (elS n M j);rw[←hS]at aI am ch;simp only[←hS];obtain⟨a,ha⟩:=ε (S.2.length);rw[←ha]at ch;simp only[←ha];have bp:(Qid S.2).length=a:=by unfold Qid;rw[List.length_map,ha]
  obtain⟨Ap,cp,rfl,di,dj,dX⟩:=aI.form;obtain⟨b0,cw,cx⟩:=bN.cells;rw[bp]at aI di aA am ⊢;replace hS:=η hS;replace ha:=η ha;replace bp:=η bp;by_cases ed:j<ay
  ·by_cases a8:a<n
   ·go_wp2_with fail;go_loop [12] (fun kS=>∃k:Nat,a≤k∧k≤n∧kS=.int .i64 k∧Hid (∀t,a≤t→t<k→S.1 t j=0)) (fun kS=>n - (intOf kS).toNat)
    case atStart=>exact⟨a,Nat.le_refl _,by omega,rfl,fun t O h2=>absurd h2 (by omega)⟩
    case round =>
     obtain⟨k,cy,cz,rfl,bO⟩:=hrel;have dM:(0:Int)≤(k:Int):=by omega
     have dN:(0:Int)≤(j:Int):=by omega
     have dO:(j:Int)<(m:Int):=by omega
     by_cases bw:k<n
     ·have dP:(k:Int)<(n:Int):=by omega
      obtain⟨bk,ok,ck,dk,dl,cB,dY,dm,dn,cC,dp,dq,dr⟩:=am.entry bw (by omega:j<m);obtain⟨y,hy⟩:=ε (ci (S.1 k j));rw[←hy]at cB;by_cases hz:S.1 k j=0
      ·have bx:(y==0)=true:=by rw[beq_iff_eq,hy,hz,QaF]
       have c7:Hid (∀t,a≤t→t<k+1→S.1 t j=0):=fun t O h2=>by
        by_cases e:t=k
        ·rw[e];exact hz
        ·exact bO.out t O (by omega)
       clear hy hz;go_wp2_with fail;go_round
       case rel=>exact⟨k+1,by omega,by omega,by go_num,c7⟩
       case measure=>simp[intOf];omega
      ·have bz:=η (Qpj cy cz (fun t O h2=>bO.out t O h2) (.inr hz));have bx:(y==0)=false:=by rw[beq_eq_false_iff_ne,hy];exact fun e=>hz (Qaq.1 e)
       have dQ:((k:Int)==(n:Int))=false:=by rw[beq_eq_false_iff_ne];omega
       replace hy:=η hy;replace hz:=η hz;have dR:(0:Int)≤(a:Int):=by omega
       have dS:(a:Int)<(n:Int):=by omega
       obtain⟨ba,oa,ca,ds,du,dv,dZ,cF,dw,cG,dx,dy,dz⟩:=am.entry a8 (by omega:j<m);have aY:=am.put a8 cC dp dq dm dn dr;obtain⟨w5,aC⟩:=ε ((wo.setCell ⟨g,a,none⟩ (.slice (some ⟨bk,ok,none⟩) m ck)).drew);have bB:Below g wo w5:=by rw[aC];exact (κ.setCell (p:=⟨g,a,none⟩) ρ _).drew
       replace aY:=aY.drew;rw[←aC]at aY;have cj:w5.heap.size=wo.heap.size:=by rw[aC];simp[World.setCell]
       have cm:Rd w5 w5.heap.size (some ⟨ba,oa,none⟩) (QaK F.z m (S.1 a)):=by
        rw[cj,aC];exact (cG.farN (fun _ b e=>by cases e;exact cF) a (.slice (some ⟨bk,ok,none⟩) m ck)).drew
       obtain⟨d0,d1,d2,dA,dB,-⟩:=aY.entry bw (by omega:j<m);have ao:=aY.put bw cm dx dy cF dw dz;rw[Qpg]at ao;obtain⟨w6,aN⟩:=ε (w5.setCell ⟨g,k,none⟩ (.slice (some ⟨ba,oa,none⟩) m ca));rw[←aN]at ao;have bC:Below g w5 w6:=by rw[aN];exact κ.setCell (p:=⟨g,k,none⟩) ρ _
       have ae:=η (show _∧_∧_ from ⟨b0,cw,cx⟩);have bD:=η (Qau bB Y ae.out);have aF:=η (Qau bC Y bD.out);have aG:Own w6 (w.heap.size+1) (.slice Ap a cp) (Qid S.2):=by
        rw[aN,aC];exact ((aI.far (p:=⟨g,a,none⟩) aA (.slice (some ⟨bk,ok,none⟩) m ck)).drew).far (p:=⟨g,k,none⟩) aA _
       have ak:Below w.heap.size w w6:=(bj.trans (bB.mono (Nat.le_of_lt Y))).trans (bC.mono (Nat.le_of_lt Y));replace aC:=η aC;replace aN:=η aN;clear dv;go_upto_region 11 with (fail)
       go_cut [] from 16 to 134 (fun wx=>wx=w6)
       case first =>
        refine wp_region_held_drew (S:=fun w'=>w'.cell? ⟨w.heap.size,0,none⟩=some (.int .i64 F.p)∧w'.cell? ⟨w.heap.size,1,none⟩=some (.int .i64 F.m)∧w'.cell? ⟨w.heap.size,2,none⟩=some (.slice A F.mod.length c)) (by kernel_rfl) (by (try dsimp only);exact ae.out) (fun hHeld=>?_);refine tk 0 ?_;simp only[pS]
        refine tk 1 ?_;simp only[pS]
        refine tk 2 ?_;simp only[pS]
        refine tk 3 ?_;simp only[pS]
        refine tk 4 ?_;simp only[pS]
        refine tk 5 ?_;simp only[pS]
        refine tk 6 ?_;simp only[pS]
        refine tk 8 ?_;simp only[pS]
        refine tk 9 ?_;simp only[pS]
        refine tk 10 ?_;simp only[pS]
        refine wpAnyH_ready (rs:=[7,11]) (by kernel_rfl) (by simp) ?_;refine AllReadyH.cons (o:=⟨_,_,_,_,_,_⟩) rfl (fun K I=>?_) ?_
        all_goals first
         |(go_simp
           refine I.out _ _ ae.out fun hHeld=>?_;clear I K;try simp only[pS]
           refine wpAnyH_ready (rs:=[11]) (by kernel_rfl) (by simp) ?_)
         |(refine AllReadyH.cons (o:=⟨_,_,_,_,_,_⟩) rfl (fun K I=>?_) AllReadyH.nil
           go_simp;refine I.out _ _ ae.out fun hHeld=>?_;clear I K;try simp only[pS]
           refine wpAnyH_ready (rs:=[7]) (by kernel_rfl) (by simp) ?_)
        all_goals
         refine AllReadyH.cons (o:=⟨_,_,_,_,_,_⟩) rfl (fun K I=>?_) AllReadyH.nil;go_simp;refine I.out _ _ ae.out fun hHeld=>?_;clear I K;try simp only[pS]
         refine tk 12 ?_;simp only[pS]
         refine rd 13 fun K I=>?_
         go_simp;rw[←aC.out];refine I.out _ _ bD.out fun hHeld=>?_;clear I K;try simp only[pS]
         refine tk 14 ?_;simp only[pS]
         refine rd 15 fun K I=>?_
         go_simp;rw[←aN.out];refine I.out _ _ aF.out fun hHeld=>?_;clear I K;try simp only[pS]
         refine δ ?_;go_wp2_with fail;go_meet;exact rfl
       case rest =>
        obtain rfl:_=w6:=hcut;obtain⟨M1,bc⟩:=ε (Qbt S.1 a k);rw[←bc]at ao;have bE:M1 a=S.1 k:=by rw[bc];exact if_pos rfl
        clear b0 cw cx dk dl cB ds du dA dB aY cm ae bD bB bC cG cC am aI bN bj aC aN cj dj;obtain⟨b6,o6,c6,a5,bS,cI,dD,cJ,d3,bt,d4,d5,-⟩:=ao.entry a8 (by omega:j<m);obtain⟨y6,aD⟩:=ε (ci (M1 a j));rw[←aD]at cI;have aZ:w.heap.size<wc.heap.size:=Nat.lt_trans Y ao.1;have ap:=ao.1;replace aD:=η aD;replace bc:=η bc;replace bE:=η bE;replace ao:=η ao;replace aG:=η aG;go_upto_if 69 with (fail)
        go_cut [] from 16 to 134 (fun wx=>MB wx (w.heap.size+1) g n (Value.slice Ap a cp).ownBlock (Qaw F.z m (Qbm M1 a (inv (M1 a j))))∧Own wx (w.heap.size+1) (.slice Ap a cp) (Qid S.2)∧Bx wx w.heap.size F.z A F.mod.length c∧Below w.heap.size w wx)
        case first =>
         by_cases O:M1 a j=1
         ·obtain rfl:y6=1:=by rw[aD.out,O,Qei]
          have af:Hid (MB wc (w.heap.size+1) g n (Value.slice Ap a cp).ownBlock (Qaw F.z m (Qbm M1 a (inv (M1 a j))))):=by rw[O,Qtq,Qnq];exact ao.out
          clear O aD;go_wp2_with fail;go_meet;exact⟨af.out,aG.out,⟨aF.out.1,aF.out.2.1,aF.out.2.2⟩,ak⟩
         ·have c8:¬ y6=1:=by rw[aD.out];exact fun e=>O (Qev.1 e)
          have dT:(y6 !=1)=true:=by rw[bne_iff_ne];exact c8
          have aO:=(cZ y6 wc.drew (hr.bm ak).drew).out;rw[aD.out,Qam,←aD.out]at aO;obtain⟨v6,bf⟩:=ε (ci (inv (M1 a j)));rw[←bf]at aO;replace aO:=η aO;have a0:=fun W h O=>(c4 (M1 a) v6 (some ⟨b6,o6,none⟩) c6 W h O).out
          rw[bf,Qam,←bf]at a0;replace a0:=fun W h O=>η (a0 W h O)
          have be:b6<wc.heap.size:=dD;have X:=η (show _∧_∧_∧_ from ⟨aF.out.1,aF.out.2.1,aF.out.2.2,cI⟩);replace bf:=η bf;clear O aD;go_wp2_with fail;refine wp_region_held_drew (S:=fun w'=>(w'.cell? ⟨w.heap.size,0,none⟩=some (.int .i64 F.p)∧w'.cell? ⟨w.heap.size,1,none⟩=some (.int .i64 F.m)∧w'.cell? ⟨w.heap.size,2,none⟩=some (.slice A F.mod.length c))∧w'.cell? ⟨b6,o6+j,none⟩=some (.int .i64 y6)) (by kernel_rfl) (by (try dsimp only);exact⟨⟨X.out.1,X.out.2.1,X.out.2.2.1⟩,X.out.2.2.2⟩) (fun hHeld=>?_);refine tk 0 ?_;simp only[pS]
          refine tk 1 ?_;simp only[pS]
          refine tk 2 ?_;simp only[pS]
          refine tk 3 ?_;simp only[pS]
          refine tk 4 ?_;simp only[pS]
          refine tk 5 ?_;simp only[pS]
          refine tk 6 ?_;simp only[pS]
          refine tk 8 ?_;simp only[pS]
          refine tk 12 ?_;simp only[pS]
          refine tk 13 ?_;simp only[pS]
          refine tk 14 ?_;simp only[pS]
          refine wpAnyH_ready (rs:=[7,15]) (by kernel_rfl) (by simp) ?_;refine AllReadyH.cons (o:=⟨_,_,_,_,_,_⟩) rfl (fun K I=>?_) ?_
          ·go_simp;refine I.out _ _ (by (try dsimp only);exact⟨⟨X.out.1,X.out.2.1,X.out.2.2.1⟩,X.out.2.2.2⟩) (fun hHeld=>?_);clear I K;try simp only[pS]
           refine tk 9 ?_;simp only[pS]
           refine tk 10 ?_;simp only[pS]
           refine wpAnyH_ready (rs:=[11,15]) (by kernel_rfl) (by simp) ?_;refine AllReadyH.cons (o:=⟨_,_,_,_,_,_⟩) rfl (fun K I=>?_) ?_
           all_goals first
            |(go_simp
              go_at_call 142;(with_reducible refine (aO).out.mono ?_);rintro e w8 ⟨rfl,ab⟩;have V:=η (QeV ab aZ be X.out);have cn:=(ab.cell (p:=⟨g,a,none⟩) ap).trans a5;have ac:=ak.drew.trans (ab.mono ak.size);have aq:wc.heap.size≤w8.heap.size:=ab.size;have bq:=a0 w8 (hr.bm ac) (bt.drew.bm ab);go_wp2_with fail;refine I.out _ _ (by (try dsimp only);exact⟨⟨V.out.1,V.out.2.1,V.out.2.2.1⟩,V.out.2.2.2⟩) (fun hHeld=>?_);clear I K;try simp only[pS]
              refine rd 15 fun K I=>?_
              go_simp;refine I.out _ _ (by (try dsimp only);first |exact⟨⟨V.out.1,V.out.2.1,V.out.2.2.1⟩,V.out.2.2.2⟩ |exact⟨⟨X.out.1,X.out.2.1,X.out.2.2.1⟩,X.out.2.2.2⟩) (fun hHeld=>?_))
            |(refine AllReadyH.cons (o:=⟨_,_,_,_,_,_⟩) rfl (fun K I=>?_) AllReadyH.nil
              go_simp;refine I.out _ _ (by (try dsimp only);first |exact⟨⟨V.out.1,V.out.2.1,V.out.2.2.1⟩,V.out.2.2.2⟩ |exact⟨⟨X.out.1,X.out.2.1,X.out.2.2.1⟩,X.out.2.2.2⟩) (fun hHeld=>?_);clear I K;try simp only[pS]
              refine rd 11 fun K I=>?_
              go_simp;go_at_call 142;(with_reducible refine (aO).out.mono ?_);rintro e w8 ⟨rfl,ab⟩;have V:=η (QeV ab aZ be X.out);have cn:=(ab.cell (p:=⟨g,a,none⟩) ap).trans a5;have ac:=ak.drew.trans (ab.mono ak.size);have aq:wc.heap.size≤w8.heap.size:=ab.size;have bq:=a0 w8 (hr.bm ac) (bt.drew.bm ab);go_wp2_with fail;refine I.out _ _ (by (try dsimp only);exact⟨⟨V.out.1,V.out.2.1,V.out.2.2.1⟩,V.out.2.2.2⟩) (fun hHeld=>?_))
           all_goals
            clear I K;try simp only[pS]
            refine rd 16 fun K I=>?_
            go_simp;go_at_call 207;(with_reducible refine (bq).out.mono ?_);rintro e w9 ⟨g9,rfl,bY,bZ,J⟩;try rw[Qae]
            have T:=η (QeV J (θ aZ aq) (θ be aq) V.out);have av:=(ζ ab J);have aE:=ao.out.drew.below av ρ;have a1:=(av.cell (p:=⟨g,a,none⟩) ap).trans a5;have c9:=(av.frozen (p:=⟨g,a,none⟩) ap).trans bS;go_wp2_with fail;refine I.out _ _ (by (try dsimp only);exact⟨⟨T.out.1,T.out.2.1,T.out.2.2.1⟩,T.out.2.2.2⟩) (fun hHeld=>?_);clear I K;try simp only[pS]
            refine tk 17 ?_;simp only[pS]
            refine rd 18 fun K I=>?_
            go_simp;refine I.out _ _ (by (try dsimp only);exact⟨Qau (B:=g) (κ.setCell (p:=⟨g,a,none⟩) ρ _) Y ⟨T.out.1,T.out.2.1,T.out.2.2.1⟩,(World.cell?_setCell_far _ _ _ _ cJ.symm).trans T.out.2.2.2⟩) (fun hHeld=>?_);clear I K;try simp only[pS]
            refine δ ?_;have bF:g9≠g:=by have O:=ap;have h2:=aq;omega
            have bG:(Value.slice Ap a cp).ownBlock≠some g9:=fun e=>by have O:=(aG.out.lt g9 e).2;have h2:=aq;omega
            have af:=η (aE.put (b:=g9) (o:=0) (c:=m) a8 bZ.rd ρ (by unfold maxLen;omega) bF bG (by have O:=ap;have h2:=aq;omega));have aP:=η ((aG.out.drew.below av ρ).far (p:=⟨g,a,none⟩) aA (.slice (some ⟨g9,0,none⟩) m m));have aQ:=η ((ak.drew.trans (av.mono ak.size)).setCell (p:=⟨g,a,none⟩) (Nat.le_of_lt Y) (.slice (some ⟨g9,0,none⟩) m m));have aR:=η (Qau (B:=g) (κ.setCell (p:=⟨g,a,none⟩) ρ (.slice (some ⟨g9,0,none⟩) m m)) Y ⟨T.out.1,T.out.2.1,T.out.2.2.1⟩);go_wp2_with fail;go_meet;exact⟨af.out,aP.out,aR.out,aQ.out⟩
          refine AllReadyH.cons (o:=⟨_,_,_,_,_,_⟩) rfl (fun K I=>?_) AllReadyH.nil;go_simp;refine I.out _ _ (by (try dsimp only);first |exact⟨⟨V.out.1,V.out.2.1,V.out.2.2.1⟩,V.out.2.2.2⟩ |exact⟨⟨X.out.1,X.out.2.1,X.out.2.2.1⟩,X.out.2.2.2⟩) (fun hHeld=>?_);clear I K;try simp only[pS]
          refine rd 7 fun K I=>?_
          go_simp;refine I.out _ _ (by (try dsimp only);exact⟨⟨X.out.1,X.out.2.1,X.out.2.2.1⟩,X.out.2.2.2⟩) (fun hHeld=>?_);clear I K;try simp only[pS]
          refine tk 9 ?_;simp only[pS]
          refine tk 10 ?_;simp only[pS]
          refine rd 11 fun K I=>?_
          go_simp;go_at_call 142;(with_reducible refine (aO).out.mono ?_);rintro e w8 ⟨rfl,ab⟩;have V:=η (QeV ab aZ be X.out);have cn:=(ab.cell (p:=⟨g,a,none⟩) ap).trans a5;have ac:=ak.drew.trans (ab.mono ak.size);have aq:wc.heap.size≤w8.heap.size:=ab.size;have bq:=a0 w8 (hr.bm ac) (bt.drew.bm ab);go_wp2_with fail;refine I.out _ _ (by (try dsimp only);exact⟨⟨V.out.1,V.out.2.1,V.out.2.2.1⟩,V.out.2.2.2⟩) (fun hHeld=>?_);clear I K;try simp only[pS]
          refine rd 16 fun K I=>?_
          go_simp;go_at_call 207;(with_reducible refine (bq).out.mono ?_);rintro e w9 ⟨g9,rfl,bY,bZ,J⟩;try rw[Qae]
          have T:=η (QeV J (θ aZ aq) (θ be aq) V.out);have av:=(ζ ab J);have aE:=ao.out.drew.below av ρ;have a1:=(av.cell (p:=⟨g,a,none⟩) ap).trans a5;have c9:=(av.frozen (p:=⟨g,a,none⟩) ap).trans bS;go_wp2_with fail;refine I.out _ _ (by (try dsimp only);exact⟨⟨T.out.1,T.out.2.1,T.out.2.2.1⟩,T.out.2.2.2⟩) (fun hHeld=>?_);clear I K;try simp only[pS]
          refine tk 17 ?_;simp only[pS]
          refine rd 18 fun K I=>?_
          go_simp;refine I.out _ _ (by (try dsimp only);exact⟨Qau (B:=g) (κ.setCell (p:=⟨g,a,none⟩) ρ _) Y ⟨T.out.1,T.out.2.1,T.out.2.2.1⟩,(World.cell?_setCell_far _ _ _ _ cJ.symm).trans T.out.2.2.2⟩) (fun hHeld=>?_);clear I K;try simp only[pS]
          refine δ ?_;have bF:g9≠g:=by have O:=ap;have h2:=aq;omega
          have bG:(Value.slice Ap a cp).ownBlock≠some g9:=fun e=>by have O:=(aG.out.lt g9 e).2;have h2:=aq;omega
          have af:=η (aE.put (b:=g9) (o:=0) (c:=m) a8 bZ.rd ρ (by unfold maxLen;omega) bF bG (by have O:=ap;have h2:=aq;omega));have aP:=η ((aG.out.drew.below av ρ).far (p:=⟨g,a,none⟩) aA (.slice (some ⟨g9,0,none⟩) m m));have aQ:=η ((ak.drew.trans (av.mono ak.size)).setCell (p:=⟨g,a,none⟩) (Nat.le_of_lt Y) (.slice (some ⟨g9,0,none⟩) m m));have aR:=η (Qau (B:=g) (κ.setCell (p:=⟨g,a,none⟩) ρ (.slice (some ⟨g9,0,none⟩) m m)) Y ⟨T.out.1,T.out.2.1,T.out.2.2.1⟩);go_wp2_with fail;go_meet;exact⟨af.out,aP.out,aR.out,aQ.out⟩
        case rest =>
         obtain⟨bU,cK,cL,cM⟩:=hcut;have az:Hid (elS n M (j+1)=(QbE (Qbm M1 a (inv (M1 a j))) a j n,S.2 ++ [j])):=by
          have h:=Qi9 (A:=M) (n:=n) (c:=j) (k:=k) (by rw[←hS.out,←ha.out];exact bz.out) bw;rw[←hS.out,←ha.out]at h;unfold Hid;rw[h];unfold QgD;rw[←bc.out,bE.out]
         obtain⟨M2,bH⟩:=ε (Qbm M1 a (inv (M1 a j)));rw[←bH]at bU az;replace bH:=η bH;have co:Hid (MB wc (w.heap.size+1) g n (Value.slice Ap a cp).ownBlock (Qaw F.z m (QbE M2 a j 0))):=by rw[Qlj];exact bU
         clear bU ao aG aF ak a5 bS bt aZ ap;go_wp2_with fail;go_loopw [13] (fun iS wr=>∃i:Nat,i≤n∧iS=.int .i64 i∧Hid (MB wr (w.heap.size+1) g n (Value.slice Ap a cp).ownBlock (Qaw F.z m (QbE M2 a j i)))∧Hid (Own wr (w.heap.size+1) (.slice Ap a cp) (Qid S.2))∧Bx wr w.heap.size F.z A F.mod.length c∧Below w.heap.size w wr) (fun iS _=>n - (intOf iS).toNat)
         case atStart=>exact⟨0,by omega,rfl,co,cK,cL,cM⟩
         case round =>
          clear co cK cL cM;obtain⟨wi,rfl⟩:=ε (wr:World);obtain⟨i,hi,rfl,aK,aV,aW,ac⟩:=hrel;have ad:=aK.out.1;have a2:w.heap.size<wi.heap.size:=Nat.lt_trans Y ad;by_cases b7:i<n
          ·have dU:(0:Int)≤(i:Int):=by omega
           have dV:(i:Int)<(n:Int):=by omega
           obtain⟨bi,oi,dE,bl,cO,bV,bm,cP,d7,bu,d8,d9,-⟩:=aK.out.entry b7 (by omega:j<m);rw[Qph]at bV bu;obtain⟨yi,aw⟩:=ε (ci (M2 i j));rw[←aw]at bV;by_cases a9:i=a
           ·have da:((i:Int) !=(a:Int))=false:=by rw[bne_eq_false_iff_eq];omega
            have aE:Hid (MB wi (w.heap.size+1) g n (Value.slice Ap a cp).ownBlock (Qaw F.z m (QbE M2 a j (i+1)))):=by rw[Qhj (.inl a9)];exact aK.out
            replace aw:=η aw;clear a9;go_wp2_with fail;go_roundw
            case rel=>exact⟨i+1,by omega,by go_num,aE,aV,aW,ac⟩
            case measure=>simp[intOf];omega
           ·have da:((i:Int) !=(a:Int))=true:=by rw[bne_iff_ne];omega
            by_cases hz:M2 i j=0
            ·have aE:Hid (MB wi (w.heap.size+1) g n (Value.slice Ap a cp).ownBlock (Qaw F.z m (QbE M2 a j (i+1)))):=by rw[Qhj (.inr hz)];exact aK.out
             have bx:(yi !=0)=false:=by rw[bne_eq_false_iff_eq,aw,hz,QaF]
             replace aw:=η aw;clear a9 hz;go_wp2_with fail;go_roundw
             case rel=>exact⟨i+1,by omega,by go_num,aE,aV,aW,ac⟩
             case measure=>simp[intOf];omega
            ·have bx:(yi !=0)=true:=by rw[bne_iff_ne,aw];exact fun e=>hz (Qaq.1 e)
             obtain⟨bA,oA,cA,cU,-,-,ea,eb,-,bv,-,-,-⟩:=aK.out.entry a8 (by omega:j<m);rw[Qe8]at bv;obtain⟨v8,bg⟩:=ε (ci (-(M2 i j)));have a3:=(c3 yi wi.drew).out;rw[aw,Qam,←aw,←bg]at a3;replace a3:=η a3;have a4:=fun W h0 O h2=>(c5 (M2 i) (M2 a) v8 (some ⟨bi,oi,none⟩) (some ⟨bA,oA,none⟩) dE cA W h0 O h2).out
             rw[bg,Qam,←bg]at a4;replace a4:=fun W h0 O h2=>η (a4 W h0 O h2)
             have ae:=η (show _∧_∧_∧_∧_ from ⟨aW.cells.1,aW.cells.2.1,aW.cells.2.2,cU,bV⟩);have br:(⟨g,i,none⟩:Addr)≠⟨g,a,none⟩:=fun e=>a9 (by injection e)
             have cq:Hid (QgO (QbE M2 a j i) i (fun t=>M2 i t+-(M2 i j)*M2 a t)=QbE M2 a j (i+1)):=Qnp a9;replace aw:=η aw;replace bg:=η bg;clear a9 hz cU aW;go_wp2_with fail;refine wp_region_held_drew (S:=fun w'=>w'.cell? ⟨w.heap.size,0,none⟩=some (.int .i64 F.p)∧w'.cell? ⟨w.heap.size,1,none⟩=some (.int .i64 F.m)∧w'.cell? ⟨w.heap.size,2,none⟩=some (.slice A F.mod.length c)∧w'.cell? ⟨g,a,none⟩=some (.slice (some ⟨bA,oA,none⟩) m cA)∧w'.cell? ⟨bi,oi+j,none⟩=some (.int .i64 yi)) (by kernel_rfl) (by (try dsimp only);exact ae.out) (fun hHeld=>?_);refine tk 0 ?_;simp only[pS]
             refine tk 1 ?_;simp only[pS]
             refine tk 2 ?_;simp only[pS]
             refine tk 3 ?_;simp only[pS]
             refine tk 4 ?_;simp only[pS]
             refine tk 5 ?_;simp only[pS]
             refine tk 7 ?_;simp only[pS]
             refine tk 8 ?_;simp only[pS]
             refine tk 9 ?_;simp only[pS]
             refine tk 10 ?_;simp only[pS]
             refine tk 12 ?_;simp only[pS]
             refine tk 16 ?_;simp only[pS]
             refine tk 17 ?_;simp only[pS]
             refine tk 18 ?_;simp only[pS]
             refine tk 19 ?_;simp only[pS]
             refine wpAnyH_ready (rs:=[6,11]) (by kernel_rfl) (by simp) ?_;refine AllReadyH.cons (o:=⟨_,_,_,_,_,_⟩) rfl (fun K I=>?_) ?_
             ·go_simp;refine I.out _ _ (by (try dsimp only);first |exact T.out |exact ae.out) (fun hHeld=>?_);clear I K;try simp only[pS]
              refine rd 11 fun K I=>?_
              go_simp;refine I.out _ _ ae.out fun hHeld=>?_;clear I K;try simp only[pS]
              refine tk 13 ?_;simp only[pS]
              refine tk 14 ?_;simp only[pS]
              refine rd 15 fun K I=>?_
              go_simp;go_at_call 101;(with_reducible refine (a3).out.mono ?_);rintro e w9 ⟨rfl,J⟩;have T:=η (Qe1 J a2 ad bm ae.out);have a1:=(J.cell (p:=⟨g,i,none⟩) ad).trans bl;have aH:=ac.drew.trans (J.mono ac.size);have al:wi.heap.size≤w9.heap.size:=J.size;have bs:=a4 w9 (hr.bm aH) (bu.drew.bm J) (bv.drew.bm J);go_wp2_with fail;refine I.out _ _ T.out fun hHeld=>?_;clear I K;try simp only[pS]
              refine rd 20 fun K I=>?_
              go_simp;go_at_call 99;(with_reducible refine (bs).out.mono ?_);rintro e dF ⟨aj,rfl,dG,b1,bo⟩;try rw[Qae]
              have U:=η (Qe1 bo (θ a2 al) (θ ad al) (θ bm al) T.out);have ax:=(ζ J bo);have bI:=aK.out.drew.below ax ρ;have bJ:=(ax.cell (p:=⟨g,i,none⟩) ad).trans bl;have bK:=(ax.frozen (p:=⟨g,i,none⟩) ad).trans cO;go_wp2_with fail;refine I.out _ _ U.out fun hHeld=>?_;clear I K;try simp only[pS]
              refine tk 21 ?_;simp only[pS]
              refine rd 22 fun K I=>?_
              go_simp;refine I.out _ _ (by (try dsimp only);exact⟨(Qau (B:=g) (κ.setCell (p:=⟨g,i,none⟩) ρ _) Y ⟨U.out.1,U.out.2.1,U.out.2.2.1⟩).1,(Qau (B:=g) (κ.setCell (p:=⟨g,i,none⟩) ρ _) Y ⟨U.out.1,U.out.2.1,U.out.2.2.1⟩).2.1,(Qau (B:=g) (κ.setCell (p:=⟨g,i,none⟩) ρ _) Y ⟨U.out.1,U.out.2.1,U.out.2.2.1⟩).2.2,(World.cell?_setCell_other _ _ _ _ br).trans U.out.2.2.2.1,(World.cell?_setCell_far _ _ _ _ cP.symm).trans U.out.2.2.2.2⟩) (fun hHeld=>?_);clear I K;try simp only[pS]
              refine δ ?_;have bL:aj≠g:=by have O:=ad;have h2:=al;omega
              have bM:(Value.slice Ap a cp).ownBlock≠some aj:=fun e=>by have O:=(aV.out.lt aj e).2;have h2:=al;omega
              have af:=bI.put (b:=aj) (o:=0) (c:=m) b7 b1.rd ρ (by unfold maxLen;omega) bL bM (by have O:=ad;have h2:=al;omega);rw[cq.out]at af;replace af:=η af;have aP:=η ((aV.out.drew.below ax ρ).far (p:=⟨g,i,none⟩) aA (.slice (some ⟨aj,0,none⟩) m m));have aQ:=η ((ac.drew.trans (ax.mono ac.size)).setCell (p:=⟨g,i,none⟩) (Nat.le_of_lt Y) (.slice (some ⟨aj,0,none⟩) m m));have aR:=η (Qau (B:=g) (κ.setCell (p:=⟨g,i,none⟩) ρ (.slice (some ⟨aj,0,none⟩) m m)) Y ⟨U.out.1,U.out.2.1,U.out.2.2.1⟩);clear bJ bK a1 br;go_wp2_with fail;go_roundw
              case rel=>exact⟨i+1,by omega,by go_num,af,aP,aR.out,aQ.out⟩
              case measure=>simp[intOf];omega
             refine AllReadyH.cons (o:=⟨_,_,_,_,_,_⟩) rfl (fun K I=>?_) AllReadyH.nil;go_simp;refine I.out _ _ ae.out fun hHeld=>?_;clear I K;try simp only[pS]
             refine tk 13 ?_;simp only[pS]
             refine tk 14 ?_;simp only[pS]
             refine wpAnyH_ready (rs:=[6,15]) (by kernel_rfl) (by simp) ?_;refine AllReadyH.cons (o:=⟨_,_,_,_,_,_⟩) rfl (fun K I=>?_) ?_
             all_goals first
              |(go_simp
                refine I.out _ _ (by (try dsimp only);first |exact T.out |exact ae.out) (fun hHeld=>?_);clear I K;try simp only[pS]
                refine rd 15 fun K I=>?_
                go_simp;go_at_call 101;(with_reducible refine (a3).out.mono ?_);rintro e w9 ⟨rfl,J⟩;have T:=η (Qe1 J a2 ad bm ae.out);have a1:=(J.cell (p:=⟨g,i,none⟩) ad).trans bl;have aH:=ac.drew.trans (J.mono ac.size);have al:wi.heap.size≤w9.heap.size:=J.size;have bs:=a4 w9 (hr.bm aH) (bu.drew.bm J) (bv.drew.bm J);go_wp2_with fail;refine I.out _ _ (by (try dsimp only);exact T.out) (fun hHeld=>?_))
              |(refine AllReadyH.cons (o:=⟨_,_,_,_,_,_⟩) rfl (fun K I=>?_) AllReadyH.nil
                go_simp;go_at_call 101;(with_reducible refine (a3).out.mono ?_);rintro e w9 ⟨rfl,J⟩;have T:=η (Qe1 J a2 ad bm ae.out);have a1:=(J.cell (p:=⟨g,i,none⟩) ad).trans bl;have aH:=ac.drew.trans (J.mono ac.size);have al:wi.heap.size≤w9.heap.size:=J.size;have bs:=a4 w9 (hr.bm aH) (bu.drew.bm J) (bv.drew.bm J);go_wp2_with fail;refine I.out _ _ T.out fun hHeld=>?_;clear I K;try simp only[pS]
                refine rd 6 fun K I=>?_
                go_simp;refine I.out _ _ (by (try dsimp only);first |exact T.out |exact ae.out) (fun hHeld=>?_))
             all_goals
              clear I K;try simp only[pS]
              refine rd 20 fun K I=>?_
              go_simp;go_at_call 99;(with_reducible refine (bs).out.mono ?_);rintro e dF ⟨aj,rfl,dG,b1,bo⟩;try rw[Qae]
              have U:=η (Qe1 bo (θ a2 al) (θ ad al) (θ bm al) T.out);have ax:=(ζ J bo);have bI:=aK.out.drew.below ax ρ;have bJ:=(ax.cell (p:=⟨g,i,none⟩) ad).trans bl;have bK:=(ax.frozen (p:=⟨g,i,none⟩) ad).trans cO;go_wp2_with fail;refine I.out _ _ U.out fun hHeld=>?_;clear I K;try simp only[pS]
              refine tk 21 ?_;simp only[pS]
              refine rd 22 fun K I=>?_
              go_simp;refine I.out _ _ (by (try dsimp only);exact⟨(Qau (B:=g) (κ.setCell (p:=⟨g,i,none⟩) ρ _) Y ⟨U.out.1,U.out.2.1,U.out.2.2.1⟩).1,(Qau (B:=g) (κ.setCell (p:=⟨g,i,none⟩) ρ _) Y ⟨U.out.1,U.out.2.1,U.out.2.2.1⟩).2.1,(Qau (B:=g) (κ.setCell (p:=⟨g,i,none⟩) ρ _) Y ⟨U.out.1,U.out.2.1,U.out.2.2.1⟩).2.2,(World.cell?_setCell_other _ _ _ _ br).trans U.out.2.2.2.1,(World.cell?_setCell_far _ _ _ _ cP.symm).trans U.out.2.2.2.2⟩) (fun hHeld=>?_);clear I K;try simp only[pS]
              refine δ ?_;have bL:aj≠g:=by have O:=ad;have h2:=al;omega
              have bM:(Value.slice Ap a cp).ownBlock≠some aj:=fun e=>by have O:=(aV.out.lt aj e).2;have h2:=al;omega
              have af:=bI.put (b:=aj) (o:=0) (c:=m) b7 b1.rd ρ (by unfold maxLen;omega) bL bM (by have O:=ad;have h2:=al;omega);rw[cq.out]at af;replace af:=η af;have aP:=η ((aV.out.drew.below ax ρ).far (p:=⟨g,i,none⟩) aA (.slice (some ⟨aj,0,none⟩) m m));have aQ:=η ((ac.drew.trans (ax.mono ac.size)).setCell (p:=⟨g,i,none⟩) (Nat.le_of_lt Y) (.slice (some ⟨aj,0,none⟩) m m));have aR:=η (Qau (B:=g) (κ.setCell (p:=⟨g,i,none⟩) ρ (.slice (some ⟨aj,0,none⟩) m m)) Y ⟨U.out.1,U.out.2.1,U.out.2.2.1⟩);clear bJ bK a1 br;go_wp2_with fail;go_roundw
              case rel=>exact⟨i+1,by omega,by go_num,af,aP,aR.out,aQ.out⟩
              case measure=>simp[intOf];omega
          ·obtain rfl:i=n:=by omega
           have db:(Qid S.2).length≤1000000:=by rw[bp.out];omega
           have dc:w.heap.size+1≤wi.heap.size:=a2;go_wp2_with (at_builtin;refine Qbs rfl (.tmp 129) (.tmp 131) rfl (w.heap.size+1) _ (Qid S.2) _ aV.out rfl rfl rfl db dc ?_;intro v9 w9 dI J bY cW);have dd:(elS i M (j+1)).1=QbE M2 a j i:=by rw[az.out]
           have cs:(elS i M (j+1)).2=S.2 ++ [j]:=by rw[az.out]
           have de:Qid (S.2 ++ [j])=Qid S.2 ++ [(j:Int)]:=by unfold Qid;rw[List.map_append];rfl
           have aE:=aK.out.grown bY aA cW;have df:v9.ownBlock≠some g:=fun e=>by
            rcases cW with h |h
            ·exact aA (h ▸ e)
            ·have:=h g e;omega
           have dg:Bx w9 w.heap.size F.z A F.mod.length c:=aW.below J (Nat.lt_succ_self _);go_roundw
           case rel=>exact⟨j+1,by omega,by go_num,by rw[cs,List.length_append,←ha.out];go_num,by rw[cs,de];exact dI,df,by rw[dd];exact aE,dg,ac.trans (J.mono (Nat.le_succ _))⟩
           case measure=>simp[intOf];omega
     ·obtain rfl:k=n:=by omega
      have bz:=η (Qpj cy cz (fun t O h2=>bO.out t O h2) (.inl rfl));have az:Hid (elS k M (j+1)=S):=by
       unfold Hid;rw[Qvo (A:=M) (n:=k) (c:=j) (by rw[←hS.out,←ha.out];exact bz.out),←hS.out]
      go_wp2_with fail;go_roundw
      case rel=>exact⟨j+1,by omega,by go_num,by rw[az.out,←ha.out],by rw[az.out];exact aI,aA,by rw[az.out];exact am,bN,bj⟩
      case measure=>simp[intOf];omega
   ·have az:Hid (elS n M ay=S):=by
     unfold Hid;obtain⟨d,rfl⟩:∃d,ay=j+d:=⟨ay - j,by omega⟩;rw[Qja (by rw[←hS.out,←ha.out];omega) d,←hS.out]
    go_wp2_with fail;go_ret2;exact⟨some ⟨g,0,none⟩,cl,.slice Ap a cp,rfl,bj,ct,cu,by rw[az.out];exact aI.lowerM (Nat.le_succ _),fun _=>⟨g,rfl,Y,by rw[az.out];exact am⟩,fun h=>absurd h (by omega)⟩
  ·obtain rfl:j=ay:=by omega
   go_wp2_with fail;go_ret2;exact⟨some ⟨g,0,none⟩,cl,.slice Ap a cp,rfl,bj,ct,cu,by rw[←hS.out];exact aI.lowerM (Nat.le_succ _),fun _=>⟨g,rfl,Y,by rw[←hS.out];exact am⟩,fun h=>absurd h (by omega)⟩
end Go.Proofs
