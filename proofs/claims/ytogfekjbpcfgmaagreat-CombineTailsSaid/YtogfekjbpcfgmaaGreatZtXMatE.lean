/- The reference's elimination. -/
import Derived.Deep.CutRange
import Derived.IntWalk
import Derived.Test.YtogfekjbpcfgmaaGreatZtXRF
import Derived.Test.YtogfekjbpcfgmaaGreatZtXMatC
import Derived.Test.YtogfekjbpcfgmaaGreatZtXTk
namespace Go.Proofs.YtogfekjbpcfgmaaGreat
open Go.RowKit Cw
open Cw.CField (inv)
attribute [local go_sem] Oper.semAt_some

theorem MB.entry {D:Desc} {w:World} {L g n m:Nat} {q:Option Nat} {M:Nat→Nat→R D} (h:MB w L g n q (rowsL D m M)){i j:Nat} (hi:i<n)(hj:j<m) :
  ∃ b o ci',w.cell? ⟨g,i,none⟩=some (.slice (some ⟨b,o,none⟩) m ci')∧w.frozen? ⟨g,i,none⟩=false∧w.cell? ⟨b,o+j,none⟩=some (.int .i64 (ci (M i j)))∧b<w.heap.size∧b≠g∧q≠some b∧Rd w w.heap.size (some ⟨b,o,none⟩) (rowL D m (M i))∧m≤ci'∧ci'≤maxLen∧L≤b:=by
 obtain⟨Ai,c,h1,h2,h3,h4,h5,h6⟩:=h.2 i hi;have h3':=h3;obtain⟨b,o,rfl,hb,hc⟩:=h3.at_ (k:=j) (by rw[rowsL_length]; exact hj);rw[rowsL_get _ _ _ hj]at hc;rw[rowsL_length]at h1 h4;have h7:=h6 (List.length_pos_iff.1 (by rw[rowsL_length]; omega)) _ rfl;exact⟨b,o,c,h1,h2,hc,hb,h7.1,h7.2.1,h3',h4,h5,h7.2.2⟩
theorem MB.put {D:Desc} {w:World} {L g n m:Nat} {q:Option Nat} {M:Nat→Nat→R D} (h:MB w L g n q (rowsL D m M)){i:Nat} (hi:i<n){b o c:Nat} {f:Nat→R D} (hr:Rd w w.heap.size (some ⟨b,o,none⟩) (rowL D m f))(hl:m≤c)(hc:c≤maxLen)(hb:b≠g)(hq:q≠some b)(hL:L≤b) :
  MB (w.setCell ⟨g,i,none⟩ (.slice (some ⟨b,o,none⟩) m c)) L g n q (rowsL D m (setR M i f)):=by
 have k:=h.set hi hr (by rw[rowL_length]; exact hl) hc (fun _ a e=>by cases e; exact⟨hb,hq,hL⟩);rw[rowL_length,setR_rowsL]at k;exact k
def natL (l:List Nat):List Int:=l.map fun k:Nat=>(k:Int)
def ElimPost (F:FD)(n m cols:Nat)(M:Nat→Nat→R F.toDesc)(w:World)(e:Ending)(w':World):Prop :=
 ∃ Al cl vp,e=.returned (.tuple #[.slice Al n cl,vp])∧Below w.heap.size w w'∧n≤cl∧cl≤maxLen∧Own w' w.heap.size vp (natL (elS n M cols).2) ∧
  (0<n→∃ g,Al=some ⟨g,0,none⟩∧w.heap.size+1≤g∧MB w' (w.heap.size+1) g n vp.ownBlock (rowsL F.toDesc m (elS n M cols).1))∧(n=0→Al=none∧cl=0)

set_option maxRecDepth 100000 in
set_option maxHeartbeats 8000000 in
theorem Elim9_any (F:FD)(n m cols:Nat)(M:Nat→Nat→R F.toDesc)(A Ar:Option Addr)(c cr:Nat)(w:World)(hr:Rd w w.heap.size A (modL F.toDesc))(hrm:RdM w w.heap.size Ar n (rowsL F.toDesc m M))(hn:n≤1000000)(hm:m≤70000)(hcm:cols≤m)(hn0:0<n) :
  Calls Tryz.prog 159 #[.agg #[.int .i64 F.p,.int .i64 F.m,.slice A F.mod.length c],.slice Ar n cr,.int .i64 cols] w (ElimPost F n m cols M w):=by
 have hCp:=fun W h=>Lib.hid (Copy9_any n (rowsL F.toDesc m M) Ar cr W h hn (fun i _=>by unfold rowsL; rw[rowL_length]; omega))
 have hIv:=fun y W h=>Lib.hid (Inv_any F y A c W h)
 have hNg:=fun y W=>Lib.hid (Neg_any F.toDesc y A F.mod.length c W)
 have hSc:=fun f a A1 c1 W h h1=>Lib.hid (scale9_any F.toDesc m f a A A1 c c1 W h h1 hm)
 have hAd:=fun f h a A1 A2 c1 c2 W h0 h1 h2=>Lib.hid (AddTo9_any F.toDesc m f h a A A1 A2 c c1 c2 W h0 h1 h2 hm)
 have hbx0:=Lib.hid (Bx.new w F.toDesc A F.mod.length c 24);have hB0:Below w.heap.size w (w.alloc (.cells #[.int .i64 F.p,.int .i64 F.m,.slice A F.mod.length c] 24)):=(Below.refl _ _).alloc (Nat.le_refl _) _;go_enter Tryz.func159,Tryz.ntmps159;go_wp2_with (fail);(with_reducible refine (hCp _ ((hrm.below hB0).more hB0.size)).out.mono ?_);rintro e w1 ⟨v,rfl,hown,hb1,-⟩;obtain⟨g,cl,rfl,hgl,hcl,hcl',hmb⟩:=hown.mb hn0;rw[World.size_alloc]at hmb;have hB1:=hB0.trans (hb1.mono hB0.size);have hbx1:=hbx0.out.below hb1 (by simp);rw[World.size_alloc]at hgl;have hgw:w.heap.size<g:=by omega
 clear hown hb1 hbx0 hB0 hCp hrm;go_wp2_with (fail);go_loopw [11,10,9,12,13] (fun cS aS pv _ _ wr=>∃ j:Nat,j≤cols∧cS=.int .i64 j∧aS=.int .i64 (elS n M j).2.length∧Own wr (w.heap.size+1) pv (natL (elS n M j).2)∧pv.ownBlock≠some g∧MB wr (w.heap.size+1) g n pv.ownBlock (rowsL F.toDesc m (elS n M j).1)∧Bx wr w.heap.size F.toDesc A F.mod.length c∧Below w.heap.size w wr) (fun cS _ _ _ _ _=>cols - (intOf cS).toNat)
 case atStart=>exact⟨0,by omega,rfl,rfl,Own.nil _ _,by simp[Value.ownBlock],hmb,hbx1,hB1⟩
 case round =>
  clear hmb hbx1 hB1;obtain⟨wo,rfl⟩:∃ wo:World,wo=wr:=⟨_,rfl⟩;obtain⟨j,hj,rfl,rfl,hpv,hpg,hmb,hbx,hbw⟩:=hrel;have hale:=elS_le n M j;obtain⟨S,hS⟩:∃ S,S=elS n M j:=⟨_,rfl⟩;rw[←hS]at hpv hmb hale;simp only[←hS];obtain⟨a,ha⟩:∃ a,a=S.2.length:=⟨_,rfl⟩;rw[←ha]at hale;simp only[←ha];have hnl:(natL S.2).length=a:=by unfold natL; rw[List.length_map,ha]
  obtain⟨Ap,cp,rfl,hcp,hrp,hAp⟩:=hpv.form;obtain⟨b0,c0x,c1x⟩:=hbx.cells;rw[hnl]at hpv hcp hpg hmb ⊢;replace hS:=Lib.hid hS;replace ha:=Lib.hid ha;replace hnl:=Lib.hid hnl;by_cases hjc:j<cols
  ·by_cases han:a<n
   ·go_wp2_with (fail);go_loop [12] (fun kS=>∃ k:Nat,a≤k∧k≤n∧kS=.int .i64 k∧Hid (∀ t,a≤t→t<k→S.1 t j=0)) (fun kS=>n - (intOf kS).toNat)
    case atStart=>exact⟨a,Nat.le_refl _,by omega,rfl,fun t h1 h2=>absurd h2 (by omega)⟩
    case round =>
     obtain⟨k,hak,hkn,rfl,hzero⟩:=hrel;have hk0:(0:Int)≤(k:Int):=by omega
     have hj0:(0:Int)≤(j:Int):=by omega
     have hjm:(j:Int)<(m:Int):=by omega
     by_cases hkl:k<n
     ·have hkl1:(k:Int)<(n:Int):=by omega
      obtain⟨bk,ok,ck,hxk,hfk,hyk,hbk,hbkg,hbkq,hrk,hck,hck',hLk⟩:=hmb.entry hkl (by omega:j<m);obtain⟨y,hy⟩:∃ y,y=ci (S.1 k j):=⟨_,rfl⟩;rw[←hy]at hyk;by_cases hz:S.1 k j=0
      ·have hzb:(y==0)=true:=by rw[beq_iff_eq,hy,hz,ci_zero]
       have hzero2:Hid (∀ t,a≤t→t<k+1→S.1 t j=0):=fun t h1 h2=>by
        by_cases e:t=k
        ·rw[e]; exact hz
        ·exact hzero.out t h1 (by omega)
       clear hy hz;go_wp2_with (fail);go_round
       case rel=>exact⟨k+1,by omega,by omega,by go_num,hzero2⟩
       case measure=>simp[intOf]; omega
      ·have hpiv:=Lib.hid (pivF_eq hak hkn (fun t h1 h2=>hzero.out t h1 h2) (.inr hz));have hzb:(y==0)=false:=by rw[beq_eq_false_iff_ne,hy]; exact fun e=>hz (ci_eq_zero.1 e)
       have hkb:((k:Int)==(n:Int))=false:=by rw[beq_eq_false_iff_ne]; omega
       replace hy:=Lib.hid hy;replace hz:=Lib.hid hz;have ha0:(0:Int)≤(a:Int):=by omega
       have han1:(a:Int)<(n:Int):=by omega
       obtain⟨ba,oa,ca,hxa,hfa,hya,hba,hbag,hbaq,hra,hca,hca',hLa⟩:=hmb.entry han (by omega:j<m);have hm5:=hmb.put han hrk hck hck' hbkg hbkq hLk;obtain⟨w5,hw5⟩:∃ w5,w5=(wo.setCell ⟨g,a,none⟩ (.slice (some ⟨bk,ok,none⟩) m ck)).drew:=⟨_,rfl⟩;have hb5:Below g wo w5:=by rw[hw5]; exact ((Below.refl _ _).setCell (p:=⟨g,a,none⟩) (Nat.le_refl _) _).drew
       replace hm5:=hm5.drew;rw[←hw5]at hm5;have hs5:w5.heap.size=wo.heap.size:=by rw[hw5]; simp[World.setCell]
       have hra5:Rd w5 w5.heap.size (some ⟨ba,oa,none⟩) (rowL F.toDesc m (S.1 a)):=by
        rw[hs5,hw5]; exact (hra.farN (fun _ b e=>by cases e; exact hbag) a (.slice (some ⟨bk,ok,none⟩) m ck)).drew
       obtain⟨bk5,ok5,ck5,hxk5,hfk5,-⟩:=hm5.entry hkl (by omega:j<m);have hm6:=hm5.put hkl hra5 hca hca' hbag hbaq hLa;rw[swapR_set]at hm6;obtain⟨w6,hw6⟩:∃ w6,w6=w5.setCell ⟨g,k,none⟩ (.slice (some ⟨ba,oa,none⟩) m ca):=⟨_,rfl⟩;rw[←hw6]at hm6;have hb56:Below g w5 w6:=by rw[hw6]; exact (Below.refl _ _).setCell (p:=⟨g,k,none⟩) (Nat.le_refl _) _
       have hcc:=Lib.hid (show _∧_∧_ from ⟨b0,c0x,c1x⟩);have hcc5:=Lib.hid (keep3 hb5 hgw hcc.out);have hcc6:=Lib.hid (keep3 hb56 hgw hcc5.out);have hpv6:Own w6 (w.heap.size+1) (.slice Ap a cp) (natL S.2):=by
        rw[hw6,hw5];exact ((hpv.far (p:=⟨g,a,none⟩) hpg (.slice (some ⟨bk,ok,none⟩) m ck)).drew).far (p:=⟨g,k,none⟩) hpg _
       have hB6:Below w.heap.size w w6:=(hbw.trans (hb5.mono (Nat.le_of_lt hgw))).trans (hb56.mono (Nat.le_of_lt hgw));replace hw5:=Lib.hid hw5;replace hw6:=Lib.hid hw6;clear hya;go_upto_region 11 with (fail)
       go_cut [] from 16 to 134 (fun wx=>wx=w6)
       case first =>
        refine wp_region_held_drew (S:=fun w'=>w'.cell? ⟨w.heap.size,0,none⟩=some (.int .i64 F.p)∧w'.cell? ⟨w.heap.size,1,none⟩=some (.int .i64 F.m)∧w'.cell? ⟨w.heap.size,2,none⟩=some (.slice A F.mod.length c)) (by kernel_rfl) (by (try dsimp only); exact hcc.out) (fun hHeld=>?_);refine tk 0 ?_; try simp only[pS]
        refine tk 1 ?_; try simp only[pS]
        refine tk 2 ?_; try simp only[pS]
        refine tk 3 ?_; try simp only[pS]
        refine tk 4 ?_; try simp only[pS]
        refine tk 5 ?_; try simp only[pS]
        refine tk 6 ?_; try simp only[pS]
        refine tk 8 ?_; try simp only[pS]
        refine tk 9 ?_; try simp only[pS]
        refine tk 10 ?_; try simp only[pS]
        refine wpAnyH_ready (rs:=[7,11]) (by kernel_rfl) (by simp) ?_;refine AllReadyH.cons (o:=⟨_,_,_,_,_,_⟩) rfl (fun K hK=>?_) ?_
        ·go_simp;refine hK.out _ _ (by (try dsimp only); exact hcc.out) (fun hHeld=>?_);clear hK K;try simp only[pS]
         refine rd 11 fun K hK=>?_
         go_simp;refine hK.out _ _ (by (try dsimp only); exact hcc.out) (fun hHeld=>?_);clear hK K;try simp only[pS]
         refine tk 12 ?_; try simp only[pS]
         refine rd 13 fun K hK=>?_
         go_simp;rw[←hw5.out];refine hK.out _ _ (by (try dsimp only); exact hcc5.out) (fun hHeld=>?_);clear hK K;try simp only[pS]
         refine tk 14 ?_; try simp only[pS]
         refine rd 15 fun K hK=>?_
         go_simp;rw[←hw6.out];refine hK.out _ _ (by (try dsimp only); exact hcc6.out) (fun hHeld=>?_);clear hK K;try simp only[pS]
         refine wpAnyH_done (by kernel_rfl) ?_ _;go_wp2_with (fail);go_meet;exact rfl
        refine AllReadyH.cons (o:=⟨_,_,_,_,_,_⟩) rfl (fun K hK=>?_) AllReadyH.nil;go_simp;refine hK.out _ _ (by (try dsimp only); exact hcc.out) (fun hHeld=>?_);clear hK K;try simp only[pS]
        refine rd 7 fun K hK=>?_
        go_simp;refine hK.out _ _ (by (try dsimp only); exact hcc.out) (fun hHeld=>?_);clear hK K;try simp only[pS]
        refine tk 12 ?_; try simp only[pS]
        refine rd 13 fun K hK=>?_
        go_simp;rw[←hw5.out];refine hK.out _ _ (by (try dsimp only); exact hcc5.out) (fun hHeld=>?_);clear hK K;try simp only[pS]
        refine tk 14 ?_; try simp only[pS]
        refine rd 15 fun K hK=>?_
        go_simp;rw[←hw6.out];refine hK.out _ _ (by (try dsimp only); exact hcc6.out) (fun hHeld=>?_);clear hK K;try simp only[pS]
        refine wpAnyH_done (by kernel_rfl) ?_ _;go_wp2_with (fail);go_meet;exact rfl
       case rest =>
        obtain rfl:_=w6:=hcut;obtain⟨M1,hM1⟩:∃ M1,M1=swapR S.1 a k:=⟨_,rfl⟩;rw[←hM1]at hm6;have hM1a:M1 a=S.1 k:=by rw[hM1]; exact if_pos rfl
        clear b0 c0x c1x hxk hfk hyk hxa hfa hxk5 hfk5 hm5 hra5 hcc hcc5 hb5 hb56 hra hrk hmb hpv hbx hbw hw5 hw6 hs5 hrp;obtain⟨b6,o6,c6,hx6,hf6,hy6,hb6,hbg6,hbq6,hr6,hc6,hc6',-⟩:=hm6.entry han (by omega:j<m);obtain⟨y6,hy6v⟩:∃ y6,y6=ci (M1 a j):=⟨_,rfl⟩;rw[←hy6v]at hy6;have hlt6:w.heap.size<wc.heap.size:=Nat.lt_trans hgw hm6.1;have hgl6:=hm6.1;replace hy6v:=Lib.hid hy6v;replace hM1:=Lib.hid hM1;replace hM1a:=Lib.hid hM1a;replace hm6:=Lib.hid hm6;replace hpv6:=Lib.hid hpv6;go_upto_if 69 with (fail)
        go_cut [] from 16 to 134 (fun wx=>MB wx (w.heap.size+1) g n (Value.slice Ap a cp).ownBlock (rowsL F.toDesc m (scaleR M1 a (inv (M1 a j))))∧Own wx (w.heap.size+1) (.slice Ap a cp) (natL S.2)∧Bx wx w.heap.size F.toDesc A F.mod.length c∧Below w.heap.size w wx)
        case first =>
         by_cases h1:M1 a j=1
         ·obtain rfl:y6=1:=by rw[hy6v.out,h1,ci_one]
          have hmf:Hid (MB wc (w.heap.size+1) g n (Value.slice Ap a cp).ownBlock (rowsL F.toDesc m (scaleR M1 a (inv (M1 a j))))):=by rw[h1,inv_one,scaleR_one]; exact hm6.out
          clear h1 hy6v;go_wp2_with (fail);go_meet;exact⟨hmf.out,hpv6.out,⟨hcc6.out.1,hcc6.out.2.1,hcc6.out.2.2⟩,hB6⟩
         ·have hyn:¬ y6=1:=by rw[hy6v.out]; exact fun e=>h1 (ci_eq_one.1 e)
          have hyb:(y6 !=1)=true:=by rw[bne_iff_ne]; exact hyn
          have hI6:=(hIv y6 wc.drew ((hr.below hB6).more hB6.size).drew).out;rw[hy6v.out,eli_ci,←hy6v.out]at hI6;obtain⟨v6,hv6⟩:∃ v6,v6=ci (inv (M1 a j)):=⟨_,rfl⟩;rw[←hv6]at hI6;replace hI6:=Lib.hid hI6;have hSc6:=fun W h h1=>(hSc (M1 a) v6 (some ⟨b6,o6,none⟩) c6 W h h1).out
          rw[hv6,eli_ci,←hv6]at hSc6;replace hSc6:=fun W h h1=>Lib.hid (hSc6 W h h1)
          have hb6':b6<wc.heap.size:=hb6;have hcc7:=Lib.hid (show _∧_∧_∧_ from ⟨hcc6.out.1,hcc6.out.2.1,hcc6.out.2.2,hy6⟩);replace hv6:=Lib.hid hv6;clear h1 hy6v;go_wp2_with (fail);refine wp_region_held_drew (S:=fun w'=>(w'.cell? ⟨w.heap.size,0,none⟩=some (.int .i64 F.p)∧w'.cell? ⟨w.heap.size,1,none⟩=some (.int .i64 F.m)∧w'.cell? ⟨w.heap.size,2,none⟩=some (.slice A F.mod.length c))∧w'.cell? ⟨b6,o6+j,none⟩=some (.int .i64 y6)) (by kernel_rfl) (by (try dsimp only); exact⟨⟨hcc7.out.1,hcc7.out.2.1,hcc7.out.2.2.1⟩,hcc7.out.2.2.2⟩) (fun hHeld=>?_);refine tk 0 ?_; try simp only[pS]
          refine tk 1 ?_; try simp only[pS]
          refine tk 2 ?_; try simp only[pS]
          refine tk 3 ?_; try simp only[pS]
          refine tk 4 ?_; try simp only[pS]
          refine tk 5 ?_; try simp only[pS]
          refine tk 6 ?_; try simp only[pS]
          refine tk 8 ?_; try simp only[pS]
          refine tk 12 ?_; try simp only[pS]
          refine tk 13 ?_; try simp only[pS]
          refine tk 14 ?_; try simp only[pS]
          refine wpAnyH_ready (rs:=[7,15]) (by kernel_rfl) (by simp) ?_;refine AllReadyH.cons (o:=⟨_,_,_,_,_,_⟩) rfl (fun K hK=>?_) ?_
          ·go_simp;refine hK.out _ _ (by (try dsimp only); exact⟨⟨hcc7.out.1,hcc7.out.2.1,hcc7.out.2.2.1⟩,hcc7.out.2.2.2⟩) (fun hHeld=>?_);clear hK K;try simp only[pS]
           refine tk 9 ?_; try simp only[pS]
           refine tk 10 ?_; try simp only[pS]
           refine wpAnyH_ready (rs:=[11,15]) (by kernel_rfl) (by simp) ?_;refine AllReadyH.cons (o:=⟨_,_,_,_,_,_⟩) rfl (fun K hK=>?_) ?_
           ·go_simp;go_at_call 142;(with_reducible refine (hI6).out.mono ?_);rintro e w8 ⟨rfl,hb8⟩;have hcc8:=Lib.hid (keep4 hb8 hlt6 hb6' hcc7.out);have hx8:=(hb8.cell (p:=⟨g,a,none⟩) hgl6).trans hx6;have hB8:=hB6.drew.trans (hb8.mono hB6.size);have hs8:wc.heap.size≤w8.heap.size:=hb8.size;have hSc8:=hSc6 w8 ((hr.below hB8).more hB8.size) ((hr6.drew.below hb8).more hb8.size);go_wp2_with (fail);refine hK.out _ _ (by (try dsimp only); exact⟨⟨hcc8.out.1,hcc8.out.2.1,hcc8.out.2.2.1⟩,hcc8.out.2.2.2⟩) (fun hHeld=>?_);clear hK K;try simp only[pS]
            refine rd 15 fun K hK=>?_
            go_simp;refine hK.out _ _ (by (try dsimp only); first | exact⟨⟨hcc8.out.1,hcc8.out.2.1,hcc8.out.2.2.1⟩,hcc8.out.2.2.2⟩ | exact⟨⟨hcc7.out.1,hcc7.out.2.1,hcc7.out.2.2.1⟩,hcc7.out.2.2.2⟩) (fun hHeld=>?_);clear hK K;try simp only[pS]
            refine rd 16 fun K hK=>?_
            go_simp;go_at_call 207;(with_reducible refine (hSc8).out.mono ?_);rintro e w9 ⟨g9,rfl,hg9,hib9,hb9⟩;try rw[rowL_length]
            have hcc9:=Lib.hid (keep4 hb9 (Nat.lt_of_lt_of_le hlt6 hs8) (Nat.lt_of_lt_of_le hb6' hs8) hcc8.out);have hb69:=(hb8.trans (hb9.mono hb8.size));have hm9:=hm6.out.drew.below hb69 (Nat.le_refl _);have hx9:=(hb69.cell (p:=⟨g,a,none⟩) hgl6).trans hx6;have hf9:=(hb69.frozen (p:=⟨g,a,none⟩) hgl6).trans hf6;go_wp2_with (fail);refine hK.out _ _ (by (try dsimp only); exact⟨⟨hcc9.out.1,hcc9.out.2.1,hcc9.out.2.2.1⟩,hcc9.out.2.2.2⟩) (fun hHeld=>?_);clear hK K;try simp only[pS]
            refine tk 17 ?_; try simp only[pS]
            refine rd 18 fun K hK=>?_
            go_simp;refine hK.out _ _ (by (try dsimp only); exact⟨keep3 (B:=g) ((Below.refl _ _).setCell (p:=⟨g,a,none⟩) (Nat.le_refl _) _) hgw ⟨hcc9.out.1,hcc9.out.2.1,hcc9.out.2.2.1⟩,(World.cell?_setCell_far _ _ _ _ hbg6.symm).trans hcc9.out.2.2.2⟩) (fun hHeld=>?_);clear hK K;try simp only[pS]
            refine wpAnyH_done (by kernel_rfl) ?_ _;have hg9g:g9≠g:=by have h1:=hgl6; have h2:=hs8; omega
            have hq9:(Value.slice Ap a cp).ownBlock≠some g9:=fun e=>by have h1:=(hpv6.out.lt g9 e).2; have h2:=hs8; omega
            have hmf:=Lib.hid (hm9.put (b:=g9) (o:=0) (c:=m) han hib9.rd (Nat.le_refl _) (by unfold maxLen; omega) hg9g hq9 (by have h1:=hgl6; have h2:=hs8; omega));have hpf:=Lib.hid ((hpv6.out.drew.below hb69 (Nat.le_refl _)).far (p:=⟨g,a,none⟩) hpg (.slice (some ⟨g9,0,none⟩) m m));have hBf:=Lib.hid ((hB6.drew.trans (hb69.mono hB6.size)).setCell (p:=⟨g,a,none⟩) (Nat.le_of_lt hgw) (.slice (some ⟨g9,0,none⟩) m m));have hxf:=Lib.hid (keep3 (B:=g) ((Below.refl _ _).setCell (p:=⟨g,a,none⟩) (Nat.le_refl _) (.slice (some ⟨g9,0,none⟩) m m)) hgw ⟨hcc9.out.1,hcc9.out.2.1,hcc9.out.2.2.1⟩);go_wp2_with (fail);go_meet;exact⟨hmf.out,hpf.out,hxf.out,hBf.out⟩
           refine AllReadyH.cons (o:=⟨_,_,_,_,_,_⟩) rfl (fun K hK=>?_) AllReadyH.nil;go_simp;refine hK.out _ _ (by (try dsimp only); first | exact⟨⟨hcc8.out.1,hcc8.out.2.1,hcc8.out.2.2.1⟩,hcc8.out.2.2.2⟩ | exact⟨⟨hcc7.out.1,hcc7.out.2.1,hcc7.out.2.2.1⟩,hcc7.out.2.2.2⟩) (fun hHeld=>?_);clear hK K;try simp only[pS]
           refine rd 11 fun K hK=>?_
           go_simp;go_at_call 142;(with_reducible refine (hI6).out.mono ?_);rintro e w8 ⟨rfl,hb8⟩;have hcc8:=Lib.hid (keep4 hb8 hlt6 hb6' hcc7.out);have hx8:=(hb8.cell (p:=⟨g,a,none⟩) hgl6).trans hx6;have hB8:=hB6.drew.trans (hb8.mono hB6.size);have hs8:wc.heap.size≤w8.heap.size:=hb8.size;have hSc8:=hSc6 w8 ((hr.below hB8).more hB8.size) ((hr6.drew.below hb8).more hb8.size);go_wp2_with (fail);refine hK.out _ _ (by (try dsimp only); exact⟨⟨hcc8.out.1,hcc8.out.2.1,hcc8.out.2.2.1⟩,hcc8.out.2.2.2⟩) (fun hHeld=>?_);clear hK K;try simp only[pS]
           refine rd 16 fun K hK=>?_
           go_simp;go_at_call 207;(with_reducible refine (hSc8).out.mono ?_);rintro e w9 ⟨g9,rfl,hg9,hib9,hb9⟩;try rw[rowL_length]
           have hcc9:=Lib.hid (keep4 hb9 (Nat.lt_of_lt_of_le hlt6 hs8) (Nat.lt_of_lt_of_le hb6' hs8) hcc8.out);have hb69:=(hb8.trans (hb9.mono hb8.size));have hm9:=hm6.out.drew.below hb69 (Nat.le_refl _);have hx9:=(hb69.cell (p:=⟨g,a,none⟩) hgl6).trans hx6;have hf9:=(hb69.frozen (p:=⟨g,a,none⟩) hgl6).trans hf6;go_wp2_with (fail);refine hK.out _ _ (by (try dsimp only); exact⟨⟨hcc9.out.1,hcc9.out.2.1,hcc9.out.2.2.1⟩,hcc9.out.2.2.2⟩) (fun hHeld=>?_);clear hK K;try simp only[pS]
           refine tk 17 ?_; try simp only[pS]
           refine rd 18 fun K hK=>?_
           go_simp;refine hK.out _ _ (by (try dsimp only); exact⟨keep3 (B:=g) ((Below.refl _ _).setCell (p:=⟨g,a,none⟩) (Nat.le_refl _) _) hgw ⟨hcc9.out.1,hcc9.out.2.1,hcc9.out.2.2.1⟩,(World.cell?_setCell_far _ _ _ _ hbg6.symm).trans hcc9.out.2.2.2⟩) (fun hHeld=>?_);clear hK K;try simp only[pS]
           refine wpAnyH_done (by kernel_rfl) ?_ _;have hg9g:g9≠g:=by have h1:=hgl6; have h2:=hs8; omega
           have hq9:(Value.slice Ap a cp).ownBlock≠some g9:=fun e=>by have h1:=(hpv6.out.lt g9 e).2; have h2:=hs8; omega
           have hmf:=Lib.hid (hm9.put (b:=g9) (o:=0) (c:=m) han hib9.rd (Nat.le_refl _) (by unfold maxLen; omega) hg9g hq9 (by have h1:=hgl6; have h2:=hs8; omega));have hpf:=Lib.hid ((hpv6.out.drew.below hb69 (Nat.le_refl _)).far (p:=⟨g,a,none⟩) hpg (.slice (some ⟨g9,0,none⟩) m m));have hBf:=Lib.hid ((hB6.drew.trans (hb69.mono hB6.size)).setCell (p:=⟨g,a,none⟩) (Nat.le_of_lt hgw) (.slice (some ⟨g9,0,none⟩) m m));have hxf:=Lib.hid (keep3 (B:=g) ((Below.refl _ _).setCell (p:=⟨g,a,none⟩) (Nat.le_refl _) (.slice (some ⟨g9,0,none⟩) m m)) hgw ⟨hcc9.out.1,hcc9.out.2.1,hcc9.out.2.2.1⟩);go_wp2_with (fail);go_meet;exact⟨hmf.out,hpf.out,hxf.out,hBf.out⟩
          refine AllReadyH.cons (o:=⟨_,_,_,_,_,_⟩) rfl (fun K hK=>?_) AllReadyH.nil;go_simp;refine hK.out _ _ (by (try dsimp only); first | exact⟨⟨hcc8.out.1,hcc8.out.2.1,hcc8.out.2.2.1⟩,hcc8.out.2.2.2⟩ | exact⟨⟨hcc7.out.1,hcc7.out.2.1,hcc7.out.2.2.1⟩,hcc7.out.2.2.2⟩) (fun hHeld=>?_);clear hK K;try simp only[pS]
          refine rd 7 fun K hK=>?_
          go_simp;refine hK.out _ _ (by (try dsimp only); exact⟨⟨hcc7.out.1,hcc7.out.2.1,hcc7.out.2.2.1⟩,hcc7.out.2.2.2⟩) (fun hHeld=>?_);clear hK K;try simp only[pS]
          refine tk 9 ?_; try simp only[pS]
          refine tk 10 ?_; try simp only[pS]
          refine rd 11 fun K hK=>?_
          go_simp;go_at_call 142;(with_reducible refine (hI6).out.mono ?_);rintro e w8 ⟨rfl,hb8⟩;have hcc8:=Lib.hid (keep4 hb8 hlt6 hb6' hcc7.out);have hx8:=(hb8.cell (p:=⟨g,a,none⟩) hgl6).trans hx6;have hB8:=hB6.drew.trans (hb8.mono hB6.size);have hs8:wc.heap.size≤w8.heap.size:=hb8.size;have hSc8:=hSc6 w8 ((hr.below hB8).more hB8.size) ((hr6.drew.below hb8).more hb8.size);go_wp2_with (fail);refine hK.out _ _ (by (try dsimp only); exact⟨⟨hcc8.out.1,hcc8.out.2.1,hcc8.out.2.2.1⟩,hcc8.out.2.2.2⟩) (fun hHeld=>?_);clear hK K;try simp only[pS]
          refine rd 16 fun K hK=>?_
          go_simp;go_at_call 207;(with_reducible refine (hSc8).out.mono ?_);rintro e w9 ⟨g9,rfl,hg9,hib9,hb9⟩;try rw[rowL_length]
          have hcc9:=Lib.hid (keep4 hb9 (Nat.lt_of_lt_of_le hlt6 hs8) (Nat.lt_of_lt_of_le hb6' hs8) hcc8.out);have hb69:=(hb8.trans (hb9.mono hb8.size));have hm9:=hm6.out.drew.below hb69 (Nat.le_refl _);have hx9:=(hb69.cell (p:=⟨g,a,none⟩) hgl6).trans hx6;have hf9:=(hb69.frozen (p:=⟨g,a,none⟩) hgl6).trans hf6;go_wp2_with (fail);refine hK.out _ _ (by (try dsimp only); exact⟨⟨hcc9.out.1,hcc9.out.2.1,hcc9.out.2.2.1⟩,hcc9.out.2.2.2⟩) (fun hHeld=>?_);clear hK K;try simp only[pS]
          refine tk 17 ?_; try simp only[pS]
          refine rd 18 fun K hK=>?_
          go_simp;refine hK.out _ _ (by (try dsimp only); exact⟨keep3 (B:=g) ((Below.refl _ _).setCell (p:=⟨g,a,none⟩) (Nat.le_refl _) _) hgw ⟨hcc9.out.1,hcc9.out.2.1,hcc9.out.2.2.1⟩,(World.cell?_setCell_far _ _ _ _ hbg6.symm).trans hcc9.out.2.2.2⟩) (fun hHeld=>?_);clear hK K;try simp only[pS]
          refine wpAnyH_done (by kernel_rfl) ?_ _;have hg9g:g9≠g:=by have h1:=hgl6; have h2:=hs8; omega
          have hq9:(Value.slice Ap a cp).ownBlock≠some g9:=fun e=>by have h1:=(hpv6.out.lt g9 e).2; have h2:=hs8; omega
          have hmf:=Lib.hid (hm9.put (b:=g9) (o:=0) (c:=m) han hib9.rd (Nat.le_refl _) (by unfold maxLen; omega) hg9g hq9 (by have h1:=hgl6; have h2:=hs8; omega));have hpf:=Lib.hid ((hpv6.out.drew.below hb69 (Nat.le_refl _)).far (p:=⟨g,a,none⟩) hpg (.slice (some ⟨g9,0,none⟩) m m));have hBf:=Lib.hid ((hB6.drew.trans (hb69.mono hB6.size)).setCell (p:=⟨g,a,none⟩) (Nat.le_of_lt hgw) (.slice (some ⟨g9,0,none⟩) m m));have hxf:=Lib.hid (keep3 (B:=g) ((Below.refl _ _).setCell (p:=⟨g,a,none⟩) (Nat.le_refl _) (.slice (some ⟨g9,0,none⟩) m m)) hgw ⟨hcc9.out.1,hcc9.out.2.1,hcc9.out.2.2.1⟩);go_wp2_with (fail);go_meet;exact⟨hmf.out,hpf.out,hxf.out,hBf.out⟩
        case rest =>
         obtain⟨hm7,hpv7,hbx7,hB7⟩:=hcut;have hEl:Hid (elS n M (j+1)=(clearR (scaleR M1 a (inv (M1 a j))) a j n,S.2 ++ [j])):=by
          have h:=elS_yes (A:=M) (n:=n) (c:=j) (k:=k) (by rw[←hS.out,←ha.out]; exact hpiv.out) hkl;rw[←hS.out,←ha.out]at h;unfold Hid;rw[h];unfold stepR;rw[←hM1.out,hM1a.out]
         obtain⟨M2,hM2⟩:∃ M2,M2=scaleR M1 a (inv (M1 a j)):=⟨_,rfl⟩;rw[←hM2]at hm7 hEl;replace hM2:=Lib.hid hM2;have hm7':Hid (MB wc (w.heap.size+1) g n (Value.slice Ap a cp).ownBlock (rowsL F.toDesc m (clearR M2 a j 0))):=by rw[clearR_zero]; exact hm7
         clear hm7 hm6 hpv6 hcc6 hB6 hx6 hf6 hr6 hlt6 hgl6;go_wp2_with (fail);go_loopw [13] (fun iS wr=>∃ i:Nat,i≤n∧iS=.int .i64 i∧Hid (MB wr (w.heap.size+1) g n (Value.slice Ap a cp).ownBlock (rowsL F.toDesc m (clearR M2 a j i)))∧Hid (Own wr (w.heap.size+1) (.slice Ap a cp) (natL S.2))∧Bx wr w.heap.size F.toDesc A F.mod.length c∧Below w.heap.size w wr) (fun iS _=>n - (intOf iS).toNat)
         case atStart=>exact⟨0,by omega,rfl,hm7',hpv7,hbx7,hB7⟩
         case round =>
          clear hm7' hpv7 hbx7 hB7;obtain⟨wi,rfl⟩:∃ wi:World,wi=wr:=⟨_,rfl⟩;obtain⟨i,hi,rfl,hm8,hpv8,hbx8,hB8⟩:=hrel;have hgl8:=hm8.out.1;have hlt8:w.heap.size<wi.heap.size:=Nat.lt_trans hgw hgl8;by_cases hin:i<n
          ·have hi0:(0:Int)≤(i:Int):=by omega
           have hi1:(i:Int)<(n:Int):=by omega
           obtain⟨bi,oi,ci8,hxi,hfi,hyi,hbi,hbig,hbiq,hri,hci,hci',-⟩:=hm8.out.entry hin (by omega:j<m);rw[clearR_at]at hyi hri;obtain⟨yi,hyv⟩:∃ yi,yi=ci (M2 i j):=⟨_,rfl⟩;rw[←hyv]at hyi;by_cases hia:i=a
           ·have hib:((i:Int) !=(a:Int))=false:=by rw[bne_eq_false_iff_eq]; omega
            have hm9:Hid (MB wi (w.heap.size+1) g n (Value.slice Ap a cp).ownBlock (rowsL F.toDesc m (clearR M2 a j (i+1)))):=by rw[clearR_skip (.inl hia)]; exact hm8.out
            replace hyv:=Lib.hid hyv;clear hia;go_wp2_with (fail);go_roundw
            case rel=>exact⟨i+1,by omega,by go_num,hm9,hpv8,hbx8,hB8⟩
            case measure=>simp[intOf]; omega
           ·have hib:((i:Int) !=(a:Int))=true:=by rw[bne_iff_ne]; omega
            by_cases hz:M2 i j=0
            ·have hm9:Hid (MB wi (w.heap.size+1) g n (Value.slice Ap a cp).ownBlock (rowsL F.toDesc m (clearR M2 a j (i+1)))):=by rw[clearR_skip (.inr hz)]; exact hm8.out
             have hzb:(yi !=0)=false:=by rw[bne_eq_false_iff_eq,hyv,hz,ci_zero]
             replace hyv:=Lib.hid hyv;clear hia hz;go_wp2_with (fail);go_roundw
             case rel=>exact⟨i+1,by omega,by go_num,hm9,hpv8,hbx8,hB8⟩
             case measure=>simp[intOf]; omega
            ·have hzb:(yi !=0)=true:=by rw[bne_iff_ne,hyv]; exact fun e=>hz (ci_eq_zero.1 e)
             obtain⟨bA,oA,cA,hxA,-,-,hbA,hbAg,-,hrA,-,-,-⟩:=hm8.out.entry han (by omega:j<m);rw[clearR_self]at hrA;obtain⟨v8,hv8⟩:∃ v8,v8=ci (-(M2 i j)):=⟨_,rfl⟩;have hN8:=(hNg yi wi.drew).out;rw[hyv,eli_ci,←hyv,←hv8]at hN8;replace hN8:=Lib.hid hN8;have hA8:=fun W h0 h1 h2=>(hAd (M2 i) (M2 a) v8 (some ⟨bi,oi,none⟩) (some ⟨bA,oA,none⟩) ci8 cA W h0 h1 h2).out
             rw[hv8,eli_ci,←hv8]at hA8;replace hA8:=fun W h0 h1 h2=>Lib.hid (hA8 W h0 h1 h2)
             have hcc:=Lib.hid (show _∧_∧_∧_∧_ from ⟨hbx8.cells.1,hbx8.cells.2.1,hbx8.cells.2.2,hxA,hyi⟩);have hne:(⟨g,i,none⟩:Addr)≠⟨g,a,none⟩:=fun e=>hia (by injection e)
             have hcl2:Hid (setR (clearR M2 a j i) i (fun t=>M2 i t+-(M2 i j)*M2 a t)=clearR M2 a j (i+1)):=clearR_set hia;replace hyv:=Lib.hid hyv;replace hv8:=Lib.hid hv8;clear hia hz hxA hbx8;go_wp2_with (fail);refine wp_region_held_drew (S:=fun w'=>w'.cell? ⟨w.heap.size,0,none⟩=some (.int .i64 F.p)∧w'.cell? ⟨w.heap.size,1,none⟩=some (.int .i64 F.m)∧w'.cell? ⟨w.heap.size,2,none⟩=some (.slice A F.mod.length c)∧w'.cell? ⟨g,a,none⟩=some (.slice (some ⟨bA,oA,none⟩) m cA)∧w'.cell? ⟨bi,oi+j,none⟩=some (.int .i64 yi)) (by kernel_rfl) (by (try dsimp only); exact hcc.out) (fun hHeld=>?_);refine tk 0 ?_; try simp only[pS]
             refine tk 1 ?_; try simp only[pS]
             refine tk 2 ?_; try simp only[pS]
             refine tk 3 ?_; try simp only[pS]
             refine tk 4 ?_; try simp only[pS]
             refine tk 5 ?_; try simp only[pS]
             refine tk 7 ?_; try simp only[pS]
             refine tk 8 ?_; try simp only[pS]
             refine tk 9 ?_; try simp only[pS]
             refine tk 10 ?_; try simp only[pS]
             refine tk 12 ?_; try simp only[pS]
             refine tk 16 ?_; try simp only[pS]
             refine tk 17 ?_; try simp only[pS]
             refine tk 18 ?_; try simp only[pS]
             refine tk 19 ?_; try simp only[pS]
             refine wpAnyH_ready (rs:=[6,11]) (by kernel_rfl) (by simp) ?_;refine AllReadyH.cons (o:=⟨_,_,_,_,_,_⟩) rfl (fun K hK=>?_) ?_
             ·go_simp;refine hK.out _ _ (by (try dsimp only); first | exact hcc9.out | exact hcc.out) (fun hHeld=>?_);clear hK K;try simp only[pS]
              refine rd 11 fun K hK=>?_
              go_simp;refine hK.out _ _ (by (try dsimp only); exact hcc.out) (fun hHeld=>?_);clear hK K;try simp only[pS]
              refine tk 13 ?_; try simp only[pS]
              refine tk 14 ?_; try simp only[pS]
              refine rd 15 fun K hK=>?_
              go_simp;go_at_call 101;(with_reducible refine (hN8).out.mono ?_);rintro e w9 ⟨rfl,hb9⟩;have hcc9:=Lib.hid (keep5e hb9 hlt8 hgl8 hbi hcc.out);have hx9:=(hb9.cell (p:=⟨g,i,none⟩) hgl8).trans hxi;have hB9:=hB8.drew.trans (hb9.mono hB8.size);have hs9:wi.heap.size≤w9.heap.size:=hb9.size;have hA9:=hA8 w9 ((hr.below hB9).more hB9.size) ((hri.drew.below hb9).more hb9.size) ((hrA.drew.below hb9).more hb9.size);go_wp2_with (fail);refine hK.out _ _ (by (try dsimp only); exact hcc9.out) (fun hHeld=>?_);clear hK K;try simp only[pS]
              refine rd 20 fun K hK=>?_
              go_simp;go_at_call 99;(with_reducible refine (hA9).out.mono ?_);rintro e w10 ⟨g10,rfl,hg10,hib10,hb10⟩;try rw[rowL_length]
              have hcc10:=Lib.hid (keep5e hb10 (Nat.lt_of_lt_of_le hlt8 hs9) (Nat.lt_of_lt_of_le hgl8 hs9) (Nat.lt_of_lt_of_le hbi hs9) hcc9.out);have hb810:=(hb9.trans (hb10.mono hb9.size));have hm10:=hm8.out.drew.below hb810 (Nat.le_refl _);have hx10:=(hb810.cell (p:=⟨g,i,none⟩) hgl8).trans hxi;have hf10:=(hb810.frozen (p:=⟨g,i,none⟩) hgl8).trans hfi;go_wp2_with (fail);refine hK.out _ _ (by (try dsimp only); exact hcc10.out) (fun hHeld=>?_);clear hK K;try simp only[pS]
              refine tk 21 ?_; try simp only[pS]
              refine rd 22 fun K hK=>?_
              go_simp;refine hK.out _ _ (by (try dsimp only); exact⟨(keep3 (B:=g) ((Below.refl _ _).setCell (p:=⟨g,i,none⟩) (Nat.le_refl _) _) hgw ⟨hcc10.out.1,hcc10.out.2.1,hcc10.out.2.2.1⟩).1,(keep3 (B:=g) ((Below.refl _ _).setCell (p:=⟨g,i,none⟩) (Nat.le_refl _) _) hgw ⟨hcc10.out.1,hcc10.out.2.1,hcc10.out.2.2.1⟩).2.1,(keep3 (B:=g) ((Below.refl _ _).setCell (p:=⟨g,i,none⟩) (Nat.le_refl _) _) hgw ⟨hcc10.out.1,hcc10.out.2.1,hcc10.out.2.2.1⟩).2.2,(World.cell?_setCell_other _ _ _ _ hne).trans hcc10.out.2.2.2.1,(World.cell?_setCell_far _ _ _ _ hbig.symm).trans hcc10.out.2.2.2.2⟩) (fun hHeld=>?_);clear hK K;try simp only[pS]
              refine wpAnyH_done (by kernel_rfl) ?_ _;have hgg:g10≠g:=by have h1:=hgl8; have h2:=hs9; omega
              have hgq:(Value.slice Ap a cp).ownBlock≠some g10:=fun e=>by have h1:=(hpv8.out.lt g10 e).2; have h2:=hs9; omega
              have hmf:=hm10.put (b:=g10) (o:=0) (c:=m) hin hib10.rd (Nat.le_refl _) (by unfold maxLen; omega) hgg hgq (by have h1:=hgl8; have h2:=hs9; omega);rw[hcl2.out]at hmf;replace hmf:=Lib.hid hmf;have hpf:=Lib.hid ((hpv8.out.drew.below hb810 (Nat.le_refl _)).far (p:=⟨g,i,none⟩) hpg (.slice (some ⟨g10,0,none⟩) m m));have hBf:=Lib.hid ((hB8.drew.trans (hb810.mono hB8.size)).setCell (p:=⟨g,i,none⟩) (Nat.le_of_lt hgw) (.slice (some ⟨g10,0,none⟩) m m));have hxf:=Lib.hid (keep3 (B:=g) ((Below.refl _ _).setCell (p:=⟨g,i,none⟩) (Nat.le_refl _) (.slice (some ⟨g10,0,none⟩) m m)) hgw ⟨hcc10.out.1,hcc10.out.2.1,hcc10.out.2.2.1⟩);clear hx10 hf10 hx9 hne;go_wp2_with (fail);go_roundw
              case rel=>exact⟨i+1,by omega,by go_num,hmf,hpf,hxf.out,hBf.out⟩
              case measure=>simp[intOf]; omega
             refine AllReadyH.cons (o:=⟨_,_,_,_,_,_⟩) rfl (fun K hK=>?_) AllReadyH.nil;go_simp;refine hK.out _ _ (by (try dsimp only); exact hcc.out) (fun hHeld=>?_);clear hK K;try simp only[pS]
             refine tk 13 ?_; try simp only[pS]
             refine tk 14 ?_; try simp only[pS]
             refine wpAnyH_ready (rs:=[6,15]) (by kernel_rfl) (by simp) ?_;refine AllReadyH.cons (o:=⟨_,_,_,_,_,_⟩) rfl (fun K hK=>?_) ?_
             ·go_simp;refine hK.out _ _ (by (try dsimp only); first | exact hcc9.out | exact hcc.out) (fun hHeld=>?_);clear hK K;try simp only[pS]
              refine rd 15 fun K hK=>?_
              go_simp;go_at_call 101;(with_reducible refine (hN8).out.mono ?_);rintro e w9 ⟨rfl,hb9⟩;have hcc9:=Lib.hid (keep5e hb9 hlt8 hgl8 hbi hcc.out);have hx9:=(hb9.cell (p:=⟨g,i,none⟩) hgl8).trans hxi;have hB9:=hB8.drew.trans (hb9.mono hB8.size);have hs9:wi.heap.size≤w9.heap.size:=hb9.size;have hA9:=hA8 w9 ((hr.below hB9).more hB9.size) ((hri.drew.below hb9).more hb9.size) ((hrA.drew.below hb9).more hb9.size);go_wp2_with (fail);refine hK.out _ _ (by (try dsimp only); exact hcc9.out) (fun hHeld=>?_);clear hK K;try simp only[pS]
              refine rd 20 fun K hK=>?_
              go_simp;go_at_call 99;(with_reducible refine (hA9).out.mono ?_);rintro e w10 ⟨g10,rfl,hg10,hib10,hb10⟩;try rw[rowL_length]
              have hcc10:=Lib.hid (keep5e hb10 (Nat.lt_of_lt_of_le hlt8 hs9) (Nat.lt_of_lt_of_le hgl8 hs9) (Nat.lt_of_lt_of_le hbi hs9) hcc9.out);have hb810:=(hb9.trans (hb10.mono hb9.size));have hm10:=hm8.out.drew.below hb810 (Nat.le_refl _);have hx10:=(hb810.cell (p:=⟨g,i,none⟩) hgl8).trans hxi;have hf10:=(hb810.frozen (p:=⟨g,i,none⟩) hgl8).trans hfi;go_wp2_with (fail);refine hK.out _ _ (by (try dsimp only); exact hcc10.out) (fun hHeld=>?_);clear hK K;try simp only[pS]
              refine tk 21 ?_; try simp only[pS]
              refine rd 22 fun K hK=>?_
              go_simp;refine hK.out _ _ (by (try dsimp only); exact⟨(keep3 (B:=g) ((Below.refl _ _).setCell (p:=⟨g,i,none⟩) (Nat.le_refl _) _) hgw ⟨hcc10.out.1,hcc10.out.2.1,hcc10.out.2.2.1⟩).1,(keep3 (B:=g) ((Below.refl _ _).setCell (p:=⟨g,i,none⟩) (Nat.le_refl _) _) hgw ⟨hcc10.out.1,hcc10.out.2.1,hcc10.out.2.2.1⟩).2.1,(keep3 (B:=g) ((Below.refl _ _).setCell (p:=⟨g,i,none⟩) (Nat.le_refl _) _) hgw ⟨hcc10.out.1,hcc10.out.2.1,hcc10.out.2.2.1⟩).2.2,(World.cell?_setCell_other _ _ _ _ hne).trans hcc10.out.2.2.2.1,(World.cell?_setCell_far _ _ _ _ hbig.symm).trans hcc10.out.2.2.2.2⟩) (fun hHeld=>?_);clear hK K;try simp only[pS]
              refine wpAnyH_done (by kernel_rfl) ?_ _;have hgg:g10≠g:=by have h1:=hgl8; have h2:=hs9; omega
              have hgq:(Value.slice Ap a cp).ownBlock≠some g10:=fun e=>by have h1:=(hpv8.out.lt g10 e).2; have h2:=hs9; omega
              have hmf:=hm10.put (b:=g10) (o:=0) (c:=m) hin hib10.rd (Nat.le_refl _) (by unfold maxLen; omega) hgg hgq (by have h1:=hgl8; have h2:=hs9; omega);rw[hcl2.out]at hmf;replace hmf:=Lib.hid hmf;have hpf:=Lib.hid ((hpv8.out.drew.below hb810 (Nat.le_refl _)).far (p:=⟨g,i,none⟩) hpg (.slice (some ⟨g10,0,none⟩) m m));have hBf:=Lib.hid ((hB8.drew.trans (hb810.mono hB8.size)).setCell (p:=⟨g,i,none⟩) (Nat.le_of_lt hgw) (.slice (some ⟨g10,0,none⟩) m m));have hxf:=Lib.hid (keep3 (B:=g) ((Below.refl _ _).setCell (p:=⟨g,i,none⟩) (Nat.le_refl _) (.slice (some ⟨g10,0,none⟩) m m)) hgw ⟨hcc10.out.1,hcc10.out.2.1,hcc10.out.2.2.1⟩);clear hx10 hf10 hx9 hne;go_wp2_with (fail);go_roundw
              case rel=>exact⟨i+1,by omega,by go_num,hmf,hpf,hxf.out,hBf.out⟩
              case measure=>simp[intOf]; omega
             refine AllReadyH.cons (o:=⟨_,_,_,_,_,_⟩) rfl (fun K hK=>?_) AllReadyH.nil;go_simp;go_at_call 101;(with_reducible refine (hN8).out.mono ?_);rintro e w9 ⟨rfl,hb9⟩;have hcc9:=Lib.hid (keep5e hb9 hlt8 hgl8 hbi hcc.out);have hx9:=(hb9.cell (p:=⟨g,i,none⟩) hgl8).trans hxi;have hB9:=hB8.drew.trans (hb9.mono hB8.size);have hs9:wi.heap.size≤w9.heap.size:=hb9.size;have hA9:=hA8 w9 ((hr.below hB9).more hB9.size) ((hri.drew.below hb9).more hb9.size) ((hrA.drew.below hb9).more hb9.size);go_wp2_with (fail);refine hK.out _ _ (by (try dsimp only); exact hcc9.out) (fun hHeld=>?_);clear hK K;try simp only[pS]
             refine rd 6 fun K hK=>?_
             go_simp;refine hK.out _ _ (by (try dsimp only); first | exact hcc9.out | exact hcc.out) (fun hHeld=>?_);clear hK K;try simp only[pS]
             refine rd 20 fun K hK=>?_
             go_simp;go_at_call 99;(with_reducible refine (hA9).out.mono ?_);rintro e w10 ⟨g10,rfl,hg10,hib10,hb10⟩;try rw[rowL_length]
             have hcc10:=Lib.hid (keep5e hb10 (Nat.lt_of_lt_of_le hlt8 hs9) (Nat.lt_of_lt_of_le hgl8 hs9) (Nat.lt_of_lt_of_le hbi hs9) hcc9.out);have hb810:=(hb9.trans (hb10.mono hb9.size));have hm10:=hm8.out.drew.below hb810 (Nat.le_refl _);have hx10:=(hb810.cell (p:=⟨g,i,none⟩) hgl8).trans hxi;have hf10:=(hb810.frozen (p:=⟨g,i,none⟩) hgl8).trans hfi;go_wp2_with (fail);refine hK.out _ _ (by (try dsimp only); exact hcc10.out) (fun hHeld=>?_);clear hK K;try simp only[pS]
             refine tk 21 ?_; try simp only[pS]
             refine rd 22 fun K hK=>?_
             go_simp;refine hK.out _ _ (by (try dsimp only); exact⟨(keep3 (B:=g) ((Below.refl _ _).setCell (p:=⟨g,i,none⟩) (Nat.le_refl _) _) hgw ⟨hcc10.out.1,hcc10.out.2.1,hcc10.out.2.2.1⟩).1,(keep3 (B:=g) ((Below.refl _ _).setCell (p:=⟨g,i,none⟩) (Nat.le_refl _) _) hgw ⟨hcc10.out.1,hcc10.out.2.1,hcc10.out.2.2.1⟩).2.1,(keep3 (B:=g) ((Below.refl _ _).setCell (p:=⟨g,i,none⟩) (Nat.le_refl _) _) hgw ⟨hcc10.out.1,hcc10.out.2.1,hcc10.out.2.2.1⟩).2.2,(World.cell?_setCell_other _ _ _ _ hne).trans hcc10.out.2.2.2.1,(World.cell?_setCell_far _ _ _ _ hbig.symm).trans hcc10.out.2.2.2.2⟩) (fun hHeld=>?_);clear hK K;try simp only[pS]
             refine wpAnyH_done (by kernel_rfl) ?_ _;have hgg:g10≠g:=by have h1:=hgl8; have h2:=hs9; omega
             have hgq:(Value.slice Ap a cp).ownBlock≠some g10:=fun e=>by have h1:=(hpv8.out.lt g10 e).2; have h2:=hs9; omega
             have hmf:=hm10.put (b:=g10) (o:=0) (c:=m) hin hib10.rd (Nat.le_refl _) (by unfold maxLen; omega) hgg hgq (by have h1:=hgl8; have h2:=hs9; omega);rw[hcl2.out]at hmf;replace hmf:=Lib.hid hmf;have hpf:=Lib.hid ((hpv8.out.drew.below hb810 (Nat.le_refl _)).far (p:=⟨g,i,none⟩) hpg (.slice (some ⟨g10,0,none⟩) m m));have hBf:=Lib.hid ((hB8.drew.trans (hb810.mono hB8.size)).setCell (p:=⟨g,i,none⟩) (Nat.le_of_lt hgw) (.slice (some ⟨g10,0,none⟩) m m));have hxf:=Lib.hid (keep3 (B:=g) ((Below.refl _ _).setCell (p:=⟨g,i,none⟩) (Nat.le_refl _) (.slice (some ⟨g10,0,none⟩) m m)) hgw ⟨hcc10.out.1,hcc10.out.2.1,hcc10.out.2.2.1⟩);clear hx10 hf10 hx9 hne;go_wp2_with (fail);go_roundw
             case rel=>exact⟨i+1,by omega,by go_num,hmf,hpf,hxf.out,hBf.out⟩
             case measure=>simp[intOf]; omega
          ·obtain rfl:i=n:=by omega
           have hle:(natL S.2).length≤1000000:=by rw[hnl.out]; omega
           have hgs:w.heap.size+1≤wi.heap.size:=hlt8;go_wp2_with (at_builtin; refine wpList_app1 rfl (.tmp 129) (.tmp 131) rfl (w.heap.size+1) _ (natL S.2) _ hpv8.out rfl rfl rfl hle hgs ?_; intro v9 w9 ho9 hb9 hg9 hv9);have hEl1:(elS i M (j+1)).1=clearR M2 a j i:=by rw[hEl.out]
           have hEl2:(elS i M (j+1)).2=S.2 ++ [j]:=by rw[hEl.out]
           have hnl9:natL (S.2 ++ [j])=natL S.2 ++ [(j:Int)]:=by unfold natL; rw[List.map_append]; rfl
           have hm9:=hm8.out.grown hg9 hpg hv9;have hpg9:v9.ownBlock≠some g:=fun e=>by
            rcases hv9 with h | h
            ·exact hpg (h ▸ e)
            ·have:=h g e; omega
           have hbx9:Bx w9 w.heap.size F.toDesc A F.mod.length c:=hbx8.below hb9 (Nat.lt_succ_self _);go_roundw
           case rel=>exact⟨j+1,by omega,by go_num,by rw[hEl2,List.length_append,←ha.out]; go_num,by rw[hEl2,hnl9]; exact ho9,hpg9,by rw[hEl1]; exact hm9,hbx9,hB8.trans (hb9.mono (Nat.le_succ _))⟩
           case measure=>simp[intOf]; omega
     ·obtain rfl:k=n:=by omega
      have hpiv:=Lib.hid (pivF_eq hak hkn (fun t h1 h2=>hzero.out t h1 h2) (.inl rfl));have hEl:Hid (elS k M (j+1)=S):=by
       unfold Hid;rw[elS_no (A:=M) (n:=k) (c:=j) (by rw[←hS.out,←ha.out]; exact hpiv.out),←hS.out]
      go_wp2_with (fail);go_roundw
      case rel=>exact⟨j+1,by omega,by go_num,by rw[hEl.out,←ha.out],by rw[hEl.out]; exact hpv,hpg,by rw[hEl.out]; exact hmb,hbx,hbw⟩
      case measure=>simp[intOf]; omega
   ·have hEl:Hid (elS n M cols=S):=by
     unfold Hid;obtain⟨d,rfl⟩:∃ d,cols=j+d:=⟨cols - j,by omega⟩;rw[elS_stop (by rw[←hS.out,←ha.out]; omega) d,←hS.out]
    go_wp2_with (fail);go_ret2;exact⟨some ⟨g,0,none⟩,cl,.slice Ap a cp,rfl,hbw,hcl,hcl',by rw[hEl.out]; exact hpv.lowerM (Nat.le_succ _),fun _=>⟨g,rfl,hgw,by rw[hEl.out]; exact hmb⟩,fun h=>absurd h (by omega)⟩
  ·obtain rfl:j=cols:=by omega
   go_wp2_with (fail);go_ret2;exact⟨some ⟨g,0,none⟩,cl,.slice Ap a cp,rfl,hbw,hcl,hcl',by rw[←hS.out]; exact hpv.lowerM (Nat.le_succ _),fun _=>⟨g,rfl,hgw,by rw[←hS.out]; exact hmb⟩,fun h=>absurd h (by omega)⟩
end Go.Proofs.YtogfekjbpcfgmaaGreat
