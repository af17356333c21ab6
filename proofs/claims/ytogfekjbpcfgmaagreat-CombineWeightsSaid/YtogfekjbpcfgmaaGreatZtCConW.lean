/- combine.Concatenate of two codes. -/
import Derived.IntWalk
import Derived.Test.YtogfekjbpcfgmaaGreatZtCTrnW
import Derived.Test.YtogfekjbpcfgmaaGreatZtCConL
import Derived.Test.YtogfekjbpcfgmaaGreatZtCTk
namespace Go.Proofs.YtogfekjbpcfgmaaGreat
open Go.RowKit Cw
attribute [local go_sem] Oper.semAt_some

set_option maxRecDepth 100000 in
set_option maxHeartbeats 8000000 in
theorem cConc_any (F S:FD)(m1 m2 na nb:Nat)(rowsa rowsb:Nat→List Int)(U:Nat→Nat→R F.toDesc)(M:Nat→Nat→R S.toDesc)(va:VC F.p F.m m1 (modL F.toDesc) na rowsa F m1 U)(vb:VC S.p S.m m2 (modL S.toDesc) nb rowsb S m2 M)(l:List Int)(Aa Ra Ab Rb Al:Option Addr)(ca ka cb kb cl:Nat)(w:World)(hra:Rd w w.heap.size Aa (modL F.toDesc))(hma:RdM w w.heap.size Ra na rowsa)(hrb:Rd w w.heap.size Ab (modL S.toDesc))(hmb:RdM w w.heap.size Rb nb rowsb)(hrl:Rd w w.heap.size Al l)(hll:l.length≤maxLen)(rt:Nat)(hrt:Mt F S nb→IsRt S F rt){P Mf N:Int} {ml:List Int} {n:Nat} {rows:Nat→List Int} {E:Int}
  (hG:Mt F S nb→basE F l S.m=0→m1*m2≤64→∀ (W:World) (Ag:Option Addr) (cg:Nat),Rd W W.heap.size Ab (modL S.toDesc)→RdM W W.heap.size Ag (nb*na) (rowsL S.toDesc (m1*m2) (conR S F (rel F.toDesc rt) nb (elL F l) m2 M U))→Calls Tryz.prog 38 #[.agg #[.int .i64 S.p,.int .i64 S.m,.slice Ab S.mod.length cb],.int .i64 (m1*m2:Nat),.slice Ag (nb*na) cg] W (ResC P Mf N ml n rows E W)) :
  Calls Tryz.prog 16 #[.agg #[.int .i64 F.p,.int .i64 F.m,.slice Aa F.mod.length ca,.int .i64 m1,.slice Ra na ka],.agg #[.int .i64 S.p,.int .i64 S.m,.slice Ab S.mod.length cb,.int .i64 m2,.slice Rb nb kb],.slice Al l.length cl] w (ConPost F S nb m1 m2 l (ResC P Mf N ml n rows E) w):=by
 have hm1:=va.m1; have hm2:=vb.m1; have hm164:=va.m64; have hm264:=vb.m64;have hna64:na≤64:=by have:=va.le; omega
 obtain⟨qa1,qa2,qa3,qa4,qa5⟩:=vc_bounds va;obtain⟨qb1,qb2,qb3,qb4,qb5⟩:=vc_bounds vb;have hCa:=fun W a b=>cCheck_any F.p F.m m1 (modL F.toDesc) na rowsa Aa Ra ca ka W qa1 qa2 qa3 qa4 qa5 a b
 have hCb:=fun W a b=>cCheck_any S.p S.m m2 (modL S.toDesc) nb rowsb Ab Rb cb kb W qb1 qb2 qb3 qb4 qb5 a b
 rw[vc_err va,modL_length]at hCa;rw[vc_err vb,modL_length]at hCb;replace hCa:=fun W a b=>Lib.hid (hCa W a b)
 replace hCb:=fun W a b=>Lib.hid (hCb W a b)
 have hN:=fun W h=>Lib.hid (New_good F.toDesc Aa ca W h va.good)
 have hIs:=fun F1 h g W a b=>tIsBasis_two F F1 h l S.m Al cl g W a b hll
 obtain⟨Z,hZ⟩:∃ Z,Z=(((w.alloc (.cells #[.int .i64 F.p,.int .i64 F.m,.slice Aa F.mod.length ca,.int .i64 m1,.slice Ra na ka] 27)).alloc (.cells #[.int .i64 S.p,.int .i64 S.m,.slice Ab S.mod.length cb,.int .i64 m2,.slice Rb nb kb] 27)).alloc (.cells #[.int .i64 0,.int .i64 0,.slice none 0 0,.int .i64 0,.slice none 0 0] 27)):=⟨_,rfl⟩;have hB:Below w.heap.size w Z:=by rw[hZ]; exact (((Below.refl _ _).alloc (Nat.le_refl _) _).alloc (by simp) _).alloc (by simp; omega) _
 obtain⟨s,hs⟩:∃ s,s=w.heap.size:=⟨_,rfl⟩;have h3:=two_enter F.p F.m m1 (modL F.toDesc) na rowsa Aa Ra ca ka S.p S.m m2 (modL S.toDesc) nb rowsb Ab Rb cb kb w (Z:=Z) (by rw[modL_length,modL_length]; exact hZ) hs;rw[modL_length,modL_length]at h3;obtain⟨hZe,fa,fb,fz⟩:=h3;have hZs:s+1+1<Z.heap.size:=by omega
 obtain⟨X,hX⟩:∃ X,X=Z.alloc (.cells #[.int .i64 F.p,.int .i64 F.m,.slice Aa F.mod.length ca,.int .i64 m1,.slice Ra na ka,.int .i64 S.p,.int .i64 S.m,.slice Ab S.mod.length cb,.int .i64 m2,.slice Rb nb kb] 27):=⟨_,rfl⟩;have hbX:Below Z.heap.size Z X:=by rw[hX]; exact (Below.refl _ _).alloc (Nat.le_refl _) _
 have hBX:=hB.trans (hbX.mono hB.size);have hXc:=Lib.hid (show (X.cell? ⟨s+1+1+1,0,none⟩=some (.int .i64 F.p)∧X.cell? ⟨s+1+1+1,1,none⟩=some (.int .i64 F.m)∧X.cell? ⟨s+1+1+1,2,none⟩=some (.slice Aa F.mod.length ca)∧X.cell? ⟨s+1+1+1,3,none⟩=some (.int .i64 m1)∧X.cell? ⟨s+1+1+1,4,none⟩=some (.slice Ra na ka))∧X.cell? ⟨s+1+1+1,5,none⟩=some (.int .i64 S.p)∧X.cell? ⟨s+1+1+1,6,none⟩=some (.int .i64 S.m)∧X.cell? ⟨s+1+1+1,7,none⟩=some (.slice Ab S.mod.length cb)∧X.cell? ⟨s+1+1+1,8,none⟩=some (.int .i64 m2)∧X.cell? ⟨s+1+1+1,9,none⟩=some (.slice Rb nb kb) from by rw[hX,←hZe]; simp[go_sem]);have hXs:s+1+1+1<X.heap.size:=by rw[hX,World.size_alloc]; omega
 replace hZe:=Lib.hid hZe;replace hZ:=Lib.hid hZ;replace hX:=Lib.hid hX;replace fa:=Lib.hid fa;replace fb:=Lib.hid fb;have hfzH:=Lib.hid fz;clear fz;clear qa1 qa2 qa3 qa4 qa5 qb1 qb2 qb3 qb4 qb5;go_enter Tryz.func16,Tryz.ntmps16;obtain⟨a0,a1,a2,a3,a4,-⟩:=fa.out;obtain⟨c0,c1,c2,c3,c4,-⟩:=fb.out;go_wp2_with (fail);rw[←hZ.out];simp only[←hs];have hsw:w.heap.size≤s:=Nat.le_of_eq hs.symm;replace hs:=Lib.hid hs;go_wp2_with (fail);rw[←hX.out];clear a0 a1 a2 a3 a4 c0 c1 c2 c3 c4;go_loopw [29,9,10] (fun i _ _ wr=>∃ k:Nat,k≤2∧i=.int .i64 k∧Below X.heap.size X wr) (fun i _ _ _=>2 - (intOf i).toNat)
 case atStart=>exact⟨0,by omega,rfl,Below.refl _ _⟩
 case round =>
  obtain⟨k,hk,rfl,hbw⟩:=hrel;obtain⟨w3,rfl⟩:∃ w3:World,w3=wr:=⟨_,rfl⟩;rcases (by omega:k=0∨k=1∨k=2) with rfl | rfl | rfl
  ·have hb3:Below w3.heap.size w3 (w3.alloc (.cells #[.int .i64 F.p,.int .i64 F.m,.slice Aa F.mod.length ca,.int .i64 m1,.slice Ra na ka] 27)):=(Below.refl _ _).alloc (Nat.le_refl _) _;have hb3X:=Lib.hid (hbw.trans (hb3.mono hbw.size));have hB3:=Lib.hid (hBX.trans (hb3X.out.mono hBX.size));have hC:=hCa _ ((hra.below hB3.out).more hB3.out.size) ((hma.below hB3.out).more hB3.out.size);obtain⟨⟨q0,q1,q2,q3,q4⟩,-⟩:=hXc.out;have r0:=(hbw.cell (p:=⟨s+1+1+1,0,none⟩) hXs).trans q0;have r1:=(hbw.cell (p:=⟨s+1+1+1,1,none⟩) hXs).trans q1;have r2:=(hbw.cell (p:=⟨s+1+1+1,2,none⟩) hXs).trans q2;have r3:=(hbw.cell (p:=⟨s+1+1+1,3,none⟩) hXs).trans q3;have r4:=(hbw.cell (p:=⟨s+1+1+1,4,none⟩) hXs).trans q4;clear q0 q1 q2 q3 q4 hb3;go_wp2_with (fail);(with_reducible refine hC.out.mono ?_);rintro e w4 ⟨rfl,hb4⟩;clear r0 r1 r2 r3 r4;go_wp2_with (fail);go_roundw
   case rel=>exact⟨1,by omega,by go_num,hb3X.out.trans (hb4.mono hb3X.out.size)⟩
   case measure=>simp[intOf]
  ·have hb3:Below w3.heap.size w3 (w3.alloc (.cells #[.int .i64 S.p,.int .i64 S.m,.slice Ab S.mod.length cb,.int .i64 m2,.slice Rb nb kb] 27)):=(Below.refl _ _).alloc (Nat.le_refl _) _;have hb3X:=Lib.hid (hbw.trans (hb3.mono hbw.size));have hB3:=Lib.hid (hBX.trans (hb3X.out.mono hBX.size));have hC:=hCb _ ((hrb.below hB3.out).more hB3.out.size) ((hmb.below hB3.out).more hB3.out.size);obtain⟨-,q0,q1,q2,q3,q4⟩:=hXc.out;have r0:=(hbw.cell (p:=⟨s+1+1+1,5,none⟩) hXs).trans q0;have r1:=(hbw.cell (p:=⟨s+1+1+1,6,none⟩) hXs).trans q1;have r2:=(hbw.cell (p:=⟨s+1+1+1,7,none⟩) hXs).trans q2;have r3:=(hbw.cell (p:=⟨s+1+1+1,8,none⟩) hXs).trans q3;have r4:=(hbw.cell (p:=⟨s+1+1+1,9,none⟩) hXs).trans q4;clear q0 q1 q2 q3 q4 hb3;go_wp2_with (fail);(with_reducible refine hC.out.mono ?_);rintro e w4 ⟨rfl,hb4⟩;clear r0 r1 r2 r3 r4;go_wp2_with (fail);go_roundw
   case rel=>exact⟨2,by omega,by go_num,hb3X.out.trans (hb4.mono hb3X.out.size)⟩
   case measure=>simp[intOf]
  ·have hbZ:=hbX.trans (hbw.mono hbX.size);have hB3:=hB.trans (hbZ.mono hB.size);replace fa:=Lib.hid (fa.out.keep hbZ (by omega));replace fb:=Lib.hid (fb.out.keep hbZ (by omega));have fz:=Lib.hid (hfzH.out.keep hbZ hZs);have hs3:s+1+1<w3.heap.size:=Nat.lt_of_lt_of_le hZs hbZ.size;obtain⟨a0,a1,a2,a3,a4,-⟩:=fa.out;obtain⟨c0,c1,c2,c3,c4,-⟩:=fb.out;clear hCa hCb hXc hXs hbX hbw hBX;go_wp2_with (fail);go_cut [11,12] from 25 (fun a b wx=>∃ pb qb,a=.pointer (some ⟨pb,0,none⟩)∧b=.pointer (some ⟨qb,0,none⟩)∧(wx.cell? ⟨pb,0,none⟩=some (.int .i64 F.p)∧wx.cell? ⟨pb,1,none⟩=some (.int .i64 F.m)∧wx.cell? ⟨pb,2,none⟩=some (.slice Aa F.mod.length ca))∧(wx.cell? ⟨qb,0,none⟩=some (.int .i64 S.p)∧wx.cell? ⟨qb,1,none⟩=some (.int .i64 S.m)∧wx.cell? ⟨qb,2,none⟩=some (.slice Ab S.mod.length cb))∧pb<wx.heap.size∧qb<wx.heap.size∧Below w3.heap.size w3 wx)
   case first =>
    have k6:=Lib.hid (show (_∧_∧_)∧_∧_∧_ from ⟨⟨a0,a1,a2⟩,c0,c1,c2⟩);have vF:=fun W (h:Below w3.heap.size w3 W)=>show ((W.cell? ⟨s,0,none⟩=some (.int .i64 F.p)∧W.cell? ⟨s,1,none⟩=some (.int .i64 F.m)∧W.cell? ⟨s,2,none⟩=some (.slice Aa F.mod.length ca))∧W.cell? ⟨s+1,0,none⟩=some (.int .i64 S.p)∧W.cell? ⟨s+1,1,none⟩=some (.int .i64 S.m)∧W.cell? ⟨s+1,2,none⟩=some (.slice Ab S.mod.length cb)) from ⟨keep3 h (by omega) ⟨a0,a1,a2⟩,keep3 h (by omega) ⟨c0,c1,c2⟩⟩
    clear a0 a1 a2 a3 a4 c0 c1 c2 c3 c4;refine wp_region_held_drew (S:=fun w'=>(w'.cell? ⟨s,0,none⟩=some (.int .i64 F.p)∧w'.cell? ⟨s,1,none⟩=some (.int .i64 F.m)∧w'.cell? ⟨s,2,none⟩=some (.slice Aa F.mod.length ca))∧w'.cell? ⟨s+1,0,none⟩=some (.int .i64 S.p)∧w'.cell? ⟨s+1,1,none⟩=some (.int .i64 S.m)∧w'.cell? ⟨s+1,2,none⟩=some (.slice Ab S.mod.length cb)) (by kernel_rfl) (by (try dsimp only); exact k6.out) (fun hHeld=>?_);refine tk 0 ?_; try simp only[pS]
    refine tk 1 ?_; try simp only[pS]
    refine tk 2 ?_; try simp only[pS]
    refine tk 3 ?_; try simp only[pS]
    refine wpAnyH_ready (rs:=[4,5]) (by kernel_rfl) (by simp) ?_;refine AllReadyH.cons (o:=⟨_,_,_,_,_,_⟩) rfl (fun K hK=>?_) ?_
    ·go_simp;refine hK.out _ _ (by (try dsimp only); exact⟨⟨cell_al hHeld.1.1 _,cell_al hHeld.1.2.1 _,cell_al hHeld.1.2.2 _⟩,cell_al hHeld.2.1 _,cell_al hHeld.2.2.1 _,cell_al hHeld.2.2.2 _⟩) (fun hHeld=>?_);clear hK K;try simp only[pS]
     refine rd 5 fun K hK=>?_
     go_simp;refine hK.out _ _ (by (try dsimp only); exact⟨⟨cell_al hHeld.1.1 _,cell_al hHeld.1.2.1 _,cell_al hHeld.1.2.2 _⟩,cell_al hHeld.2.1 _,cell_al hHeld.2.2.1 _,cell_al hHeld.2.2.2 _⟩) (fun hHeld=>?_);clear hK K;try simp only[pS]
     refine rd 6 fun K hK=>?_
     go_simp;refine hK.out _ _ (by (try dsimp only); exact vF _ (twoA _ _ _).drew) (fun hHeld=>?_);clear hK K;try simp only[pS]
     refine rd 7 fun K hK=>?_
     go_simp;refine hK.out _ _ (by (try dsimp only); exact vF _ (twoA _ _ _).drew) (fun hHeld=>?_);clear hK K;try simp only[pS]
     refine wpAnyH_done (by kernel_rfl) ?_ _;go_wp2_with (fail);go_meet
     first
      | exact⟨w3.heap.size,w3.heap.size+1,rfl,rfl,by simp[go_sem],by simp[go_sem],by simp <;> omega,by simp <;> omega,(twoA _ _ _).drew⟩
      | exact⟨w3.heap.size+1,w3.heap.size,rfl,rfl,by simp[go_sem],by simp[go_sem],by simp <;> omega,by simp <;> omega,(twoA _ _ _).drew⟩
    refine AllReadyH.cons (o:=⟨_,_,_,_,_,_⟩) rfl (fun K hK=>?_) AllReadyH.nil;go_simp;refine hK.out _ _ (by (try dsimp only); exact⟨⟨cell_al hHeld.1.1 _,cell_al hHeld.1.2.1 _,cell_al hHeld.1.2.2 _⟩,cell_al hHeld.2.1 _,cell_al hHeld.2.2.1 _,cell_al hHeld.2.2.2 _⟩) (fun hHeld=>?_);clear hK K;try simp only[pS]
    refine rd 4 fun K hK=>?_
    go_simp;refine hK.out _ _ (by (try dsimp only); exact⟨⟨cell_al hHeld.1.1 _,cell_al hHeld.1.2.1 _,cell_al hHeld.1.2.2 _⟩,cell_al hHeld.2.1 _,cell_al hHeld.2.2.1 _,cell_al hHeld.2.2.2 _⟩) (fun hHeld=>?_);clear hK K;try simp only[pS]
    refine rd 6 fun K hK=>?_
    go_simp;refine hK.out _ _ (by (try dsimp only); exact vF _ (twoA _ _ _).drew) (fun hHeld=>?_);clear hK K;try simp only[pS]
    refine rd 7 fun K hK=>?_
    go_simp;refine hK.out _ _ (by (try dsimp only); exact vF _ (twoA _ _ _).drew) (fun hHeld=>?_);clear hK K;try simp only[pS]
    refine wpAnyH_done (by kernel_rfl) ?_ _;go_wp2_with (fail);go_meet
    first
     | exact⟨w3.heap.size,w3.heap.size+1,rfl,rfl,by simp[go_sem],by simp[go_sem],by simp <;> omega,by simp <;> omega,(twoA _ _ _).drew⟩
     | exact⟨w3.heap.size+1,w3.heap.size,rfl,rfl,by simp[go_sem],by simp[go_sem],by simp <;> omega,by simp <;> omega,(twoA _ _ _).drew⟩
   case rest =>
    clear a0 a1 a2 a3 a4 c0 c1 c2 c3 c4;obtain⟨pb,qb,rfl,rfl,kp,kq,hpl,hql,hb4⟩:=hcut;obtain⟨w4,rfl⟩:∃ w4:World,w4=wc:=⟨_,rfl⟩;have hB4:=hB3.trans (hb4.mono hB3.size);have fz4:=Lib.hid (fz.out.keep hb4 hs3);have fa4:=Lib.hid (fa.out.keep hb4 (by omega));have fb4:=Lib.hid (fb.out.keep hb4 (by omega));have hs4:s+1+1<w4.heap.size:=Nat.lt_of_lt_of_le hs3 hb4.size;obtain⟨e0,e1,e2,e3,e4,-⟩:=fb4.out;have kG:=Lib.hid (show (_∧_)∧(_∧_)∧_ from ⟨⟨kp.1,kp.2.1⟩,⟨kq.1,kq.2.1⟩,e4⟩);have kpH:=Lib.hid kp;have kqH:=Lib.hid kq;clear e0 e1 e2 e3 e4 kp kq fz fa fb hb4;have hSn:¬ S.m=0:=by have:=S.m1; omega
    have hSi:¬ (S.m:Int)=0:=by omega
    obtain⟨r,hr⟩:∃ r,r=F.m % S.m:=⟨_,rfl⟩;obtain⟨d,hd⟩:∃ d,d=F.m / S.m:=⟨_,rfl⟩;have hmt:((F.m:Int).tmod (S.m:Int))=(r:Int):=by rw[hr]; rfl
    have hme:((F.m:Int) % (S.m:Int))=(r:Int):=by rw[hr]; push_cast; rfl
    have hdt:((F.m:Int).tdiv (S.m:Int))=(d:Int):=by rw[hd]; rfl
    have hde:((F.m:Int) / (S.m:Int))=(d:Int):=by rw[hd]; push_cast; rfl
    have hd8:d≤8:=by rw[hd]; exact Nat.le_trans (Nat.div_le_self _ _) F.m8
    have hdw:IntKind.i64.wrap (d:Int)=(d:Int):=IntWalk.i64_in _ (by omega);by_cases hpp:F.p=S.p
    ·have hp1:((F.p:Int) !=(S.p:Int))=false:=by rw[hpp]; simp
     have hp2:(F.p !=S.p)=false:=by rw[hpp]; simp
     by_cases hr0:r=0
     ·have hr1:((r:Int) !=0)=false:=by rw[hr0]; rfl
      have hr2:(r !=0)=false:=by rw[hr0]; rfl
      by_cases hnd:nb=d
      ·have hd1:((nb:Int) !=(d:Int))=false:=by rw[hnd]; simp
       have hd2:(nb !=d)=false:=by rw[hnd]; simp
       have hmt9:=Lib.hid (show Mt F S nb from ⟨hpp.symm,Nat.dvd_of_mod_eq_zero (hr.symm.trans hr0),hd.symm.trans hnd.symm⟩);replace hr:=Lib.hid hr;replace hd:=Lib.hid hd;replace hpp:=Lib.hid hpp;replace hr0:=Lib.hid hr0;replace hnd:=Lib.hid hnd;go_wp2_with (fail);refine wp_region_held_drew (S:=fun w'=>(w'.cell? ⟨pb,0,none⟩=some (.int .i64 F.p)∧w'.cell? ⟨pb,1,none⟩=some (.int .i64 F.m))∧(w'.cell? ⟨qb,0,none⟩=some (.int .i64 S.p)∧w'.cell? ⟨qb,1,none⟩=some (.int .i64 S.m))∧w'.cell? ⟨s+1,4,none⟩=some (.slice Rb nb kb)) (by kernel_rfl) (by (try dsimp only); exact kG.out) (fun hHeld=>?_);refine tk 0 ?_; try simp only[pS]
       refine tk 1 ?_; try simp only[pS]
       refine tk 2 ?_; try simp only[pS]
       refine tk 3 ?_; try simp only[pS]
       refine tk 4 ?_; try simp only[pS]
       refine tk 5 ?_; try simp only[pS]
       refine tk 6 ?_; try simp only[pS]
       refine tk 7 ?_; try simp only[pS]
       refine tk 8 ?_; try simp only[pS]
       refine tk 9 ?_; try simp only[pS]
       refine tk 10 ?_; try simp only[pS]
       refine tk 11 ?_; try simp only[pS]
       refine tk 12 ?_; try simp only[pS]
       refine tk 13 ?_; try simp only[pS]
       refine tk 14 ?_; try simp only[pS]
       refine tk 15 ?_; try simp only[pS]
       refine tk 16 ?_; try simp only[pS]
       refine tk 17 ?_; try simp only[pS]
       refine tk 18 ?_; try simp only[pS]
       refine tk 19 ?_; try simp only[pS]
       refine tk 20 ?_; try simp only[pS]
       refine tk 21 ?_; try simp only[pS]
       refine tk 22 ?_; try simp only[pS]
       refine tk 23 ?_; try simp only[pS]
       refine wpAnyH_done (by kernel_rfl) ?_ _;have hN4:=hN w4.drew (((hra.below hB4).more hB4.size).drew);obtain⟨p0,p1,p2⟩:=kpH.out;have hps:=hpl;clear hN;go_wp2_with (fail);(with_reducible refine hN4.out.mono ?_);rintro e w5 ⟨gf,F1,hF1,rfl,hgl,hg5,hx5⟩;have hb5:=(Below.refl w4.heap.size w4).drew.trans hx5;have hB5:=hB4.trans (hb5.mono hB4.size);have fz5:=Lib.hid (fz4.out.keep hb5 hs4);have fa5:=Lib.hid (fa4.out.keep hb5 (by omega));have fb5:=Lib.hid (fb4.out.keep hb5 (by omega));have hs5:s+1+1<w5.heap.size:=Nat.lt_of_lt_of_le hs4 hb5.size;have hI5:=hIs F1 hF1 gf w5 hg5 ((hrl.below hB5).more hB5.size);have kq5:=Lib.hid (keep3 hb5 hql kqH.out);have hq5:qb<w5.heap.size:=Nat.lt_of_lt_of_le hql hb5.size;obtain⟨d0,d1,d2⟩:=kq5.out;clear p0 p1 p2 hN4 hx5 hps kG kqH kpH fz4 fa4 fb4;replace hF1:=Lib.hid hF1;by_cases hbs:basE F l S.m=0
       ·rw[show (basE F l S.m==0)=true from by rw[hbs]; rfl]at hI5;obtain⟨NN,hNN⟩:∃ NN,NN=m1*m2:=⟨_,rfl⟩;have hNl:NN≤64*64:=by rw[hNN]; exact Nat.mul_le_mul hm164 hm264
        have hw0:((m1:Int)*(m2:Int))=(NN:Int):=by rw[hNN]; push_cast; rfl
        have hmul:IntKind.i64.wrap ((m1:Int)*(m2:Int))=(NN:Int):=by rw[hw0]; exact IntWalk.i64_in _ (by omega)
        replace hw0:=Lib.hid hw0;obtain⟨a0,a1,a2,a3,a4,-⟩:=fa5.out;obtain⟨c0,c1,c2,c3,c4,-⟩:=fb5.out;clear a0 a1 a2 a3 a4 c0 c1 c2 c3 c4;have hbsH:=Lib.hid hbs;have hI6:=Lib.hid hI5;clear hI5;by_cases hN64:NN≤64
        ·have hNb:¬ (64:Int)<(NN:Int):=by omega
         have hrtH:=hrt hmt9.out;obtain⟨hln,hInd⟩:=basE_ind hmt9.out.2.1 hbs;rw[hmt9.out.2.2]at hln hInd;have hT:∀ W,Rd W W.heap.size Ab (modL S.toDesc)→RdM W W.heap.size Rb nb rowsb→GF W W.heap.size gf F1→Rd W W.heap.size Al l→Hid (Calls Tryz.prog 54 #[.pointer (some ⟨gf,0,none⟩),.agg #[.int .i64 S.p,.int .i64 S.m,.slice Ab S.mod.length cb,.int .i64 m2,.slice Rb nb kb],.slice Al l.length cl] W (TrPost S F rt nb m2 l M W)):=fun W a b c e=>by
          rw[hln];exact cTrans_two S F F1 hF1.out nb m2 rt rowsb M vb l Ab Rb Al cb kb cl gf W a b c e hln hmt9.out.1 hmt9.out.2.1 hmt9.out.2.2 hrtH hInd
         have hG2:=hG hmt9.out hbs (by rw[←hNN]; exact hN64);rw[←hNN]at hG2;have hcp:=conP_ok (R:=ResC P Mf N ml n rows E) (l:=l) hmt9.out hbs (m1:=m1) (m2:=m2) (by rw[←hNN]; exact hN64);have hSc:=fun f a A1 c1 W h2 h3=>gScale_two F F1 hF1.out m1 f a A1 c1 gf W h2 h3 (by omega)
         have hva:=va.rdm hma;have hnb8:nb≤8:=by rw[hnd.out]; exact hd8
         replace hln:=Lib.hid hln;replace hNN:=Lib.hid hNN;unfold TrPost at hT;unfold ResC at hG2;clear hbs hInd hrtH hrt hG;go_wp2_with (fail);(with_reducible refine hI6.out.mono ?_);rintro e w6 ⟨rfl,hb6⟩;have hB6:=hB5.trans (hb6.mono hB5.size);have hs6:s+1+1<w6.heap.size:=Nat.lt_of_lt_of_le hs5 hb6.size;have fz6:=Lib.hid (fz5.out.keep hb6 hs5);have fa6:=Lib.hid (fa5.out.keep hb6 (by omega));have fb6:=Lib.hid (fb5.out.keep hb6 (by omega));have hg6:=(hg5.below hb6).more hb6.size;have kq6:=Lib.hid (keep3 hb6 hq5 kq5.out);have hq6:qb<w6.heap.size:=Nat.lt_of_lt_of_le hq5 hb6.size;have hT6:=hT w6 ((hrb.below hB6).more hB6.size) ((hmb.below hB6).more hB6.size) hg6 ((hrl.below hB6).more hB6.size);obtain⟨a0,a1,a2,a3,a4,-⟩:=fa6.out;obtain⟨c0,c1,c2,c3,c4,-⟩:=fb6.out;clear d0 d1 d2 hI6 hT fz5 fa5 fb5 kq5;go_wp2_with (fail);(with_reducible refine hT6.out.mono ?_);rintro e w7 ⟨Aw,cw,rfl,hrw,hb7⟩;have hB7:=hB6.trans (hb7.mono hB6.size);have hs7:s+1+1<w7.heap.size:=Nat.lt_of_lt_of_le hs6 hb7.size;have fz7:=Lib.hid (fz6.out.keep hb7 hs6);have fa7:=Lib.hid (fa6.out.keep hb7 (by omega));have fb7:=Lib.hid (fb6.out.keep hb7 (by omega));have hg7:=(hg6.below hb7).more hb7.size;have kq7:=Lib.hid (keep3 hb7 hq6 kq6.out);have hq7:qb<w7.heap.size:=Nat.lt_of_lt_of_le hq6 hb7.size;clear a0 a1 a2 a3 a4 c0 c1 c2 c3 c4 hT6 fz6 fa6 fb6 kq6;obtain⟨a0,a1,a2,a3,a4,-⟩:=fa7.out;go_wp2_with (fail);clear a0 a1 a2 a3 a4;go_loopw [104,17,19,21,22,24] (fun iS vS _ _ _ _ wr=>∃ k:Nat,k≤na∧iS=.int .i64 k∧OwnM wr w7.heap.size vS (nb*k) (rowsL S.toDesc NN (conR S F (rel F.toDesc rt) nb (elL F l) m2 M U))∧Below w7.heap.size w7 wr) (fun iS _ _ _ _ _ _=>na - (intOf iS).toNat)
         case atStart=>exact⟨0,by omega,rfl,by rw[Nat.mul_zero]; exact OwnM.nil _ _ _,Below.refl _ _⟩
         case round =>
          obtain⟨k,hk,rfl,hown,hbw0⟩:=hrel;obtain⟨w8,rfl⟩:∃ w8:World,w8=wr:=⟨_,rfl⟩;have hB8:=hB7.trans (hbw0.mono hB7.size);by_cases hlt:k<na
          ·have hk0:(0:Int)≤(k:Int):=by omega
           have hk1:(k:Int)<(na:Int):=by omega
           obtain⟨ba,oa,Ka,la,rfl,hha,hca,hrka,hlka,hcka⟩:=hva.at_ (show k<na by omega);rw[rowsL_length]at hca hlka;have hda:=(hB8.cell (p:=⟨ba,oa+k,none⟩) hha).trans hca;obtain⟨Av,cv,rfl⟩:=hown.size;clear hca;go_wp2_with (fail);go_loopw [110,17,21,22,24] (fun iS vS _ _ _ wr=>∃ j:Nat,j≤l.length∧iS=.int .i64 j∧OwnM wr w7.heap.size vS (nb*k+j) (rowsL S.toDesc NN (conR S F (rel F.toDesc rt) nb (elL F l) m2 M U))∧Below w7.heap.size w7 wr) (fun iS _ _ _ _ _=>l.length - (intOf iS).toNat)
           case atStart=>exact⟨0,by omega,rfl,by rw[Nat.add_zero]; exact hown,hbw0⟩
           case round =>
            obtain⟨j,hj,rfl,hown9,hbx⟩:=hrel;obtain⟨w9,rfl⟩:∃ w9:World,w9=wr:=⟨_,rfl⟩;have hB9:=hB7.trans (hbx.mono hB7.size);by_cases hjd:j<l.length
            ·have hj0:(0:Int)≤(j:Int):=by omega
             have hj1:(j:Int)<(l.length:Int):=by omega
             have hjn:j<nb:=by rw[←hln.out]; exact hjd
             obtain⟨bl,ol,rfl,hbl,hcl⟩:=hrl.at_ hjd;obtain⟨u,hu⟩:∃ u,u=l[j]?.getD 0:=⟨_,rfl⟩;rw[←hu]at hcl;have hdl:=(hB9.cell (p:=⟨bl,ol+j,none⟩) hbl).trans hcl;have hS9:=hSc (U k) u Ka la w9 ((hg7.below hbx).more hbx.size) ((hrka.below hB9).more hB9.size);rw[show (fun c=>eli F.toDesc u*U k c)=fun c=>elL F l j*U k c from by rw[hu]; rfl]at hS9;unfold Gives at hS9;replace hS9:=Lib.hid hS9;have hW79:w7.heap.size≤w9.heap.size:=hbx.size;have hownH:=hown9;obtain⟨Av4,cv4,rfl⟩:=hown9.size;replace hu:=Lib.hid hu;clear hcl;go_wp2_with (fail);(with_reducible refine hS9.out.mono ?_);rintro e w10 ⟨g6,rfl,hg6,hib6,hb10⟩;rw[rowL_length];have hbx10:=hbx.trans (hb10.mono hbx.size);have hown10:=hownH.below hb10 (Nat.le_refl _);clear hown9;go_wp2_with (fail);go_loopw [119,22,24] (fun iS vS _ wr=>∃ i:Nat,i≤m1∧iS=.int .i64 i∧Own wr w10.heap.size vS (rowL S.toDesc (m2*i) (conR S F (rel F.toDesc rt) nb (elL F l) m2 M U (nb*k+j)))∧Below w10.heap.size w10 wr) (fun iS _ _ _=>m1 - (intOf iS).toNat)
             case atStart=>exact⟨0,by omega,rfl,by rw[Nat.mul_zero]; exact Own.nil _ _,Below.refl _ _⟩
             case round =>
              obtain⟨i,hi,rfl,hoi,hbq⟩:=hrel;obtain⟨w11,rfl⟩:∃ w11:World,w11=wr:=⟨_,rfl⟩;have hbx11:=hbx10.trans (hbq.mono hbx10.size);by_cases him:i<m1
              ·have hi0:(0:Int)≤(i:Int):=by omega
               have hi1:(i:Int)<(m1:Int):=by omega
               have hc6:=(hib6.below hbq hib6.lt).cell (i:=i) (by rw[rowL_length]; exact him);rw[rowL_get F.toDesc _ him]at hc6;obtain⟨y,hy⟩:∃ y:Nat,y=rcode (elL F l j*U k i):=⟨_,rfl⟩;have hyl:y<F.q:=by rw[hy]; exact rcode_lt _
               have hry:rel F.toDesc y=elL F l j*U k i:=by rw[hy,rel_rcode]
               rw[show Cw.ci (elL F l j*U k i)=(y:Int) from by rw[hy]; rfl]at hc6;obtain⟨bw,ow,Ax,cx,rfl,hbw,hcw,hrx,-,-⟩:=hrw.at_ hyl;rw[rowsL_length]at hcw;have hdw9:=(hbx11.cell (p:=⟨bw,ow+y,none⟩) hbw).trans hcw;have hrow:rowsL S.toDesc m2 (fun x=>wdS S F (rel F.toDesc rt) nb (elL F l) M (rel F.toDesc x)) y=rowL S.toDesc m2 (fun c=>conR S F (rel F.toDesc rt) nb (elL F l) m2 M U (nb*k+j) (m2*i+c)):=by
                show rowL S.toDesc m2 (wdS S F (rel F.toDesc rt) nb (elL F l) M (rel F.toDesc y))=_
                rw[hry];exact lst_congr fun c hc=>congrArg Cw.ci (conR_at hjn hc).symm
               rw[hrow]at hrx;have hrx11:=(hrx.below hbx11).more hbx11.size;have happ:=Lib.hid (rowL_app S.toDesc (m2*i) m2 (conR S F (rel F.toDesc rt) nb (elL F l) m2 M U (nb*k+j)));have hmi:m2*i≤64*64:=Nat.mul_le_mul (by omega) (by omega);have hwlow:w10.heap.size≤w11.heap.size:=hbq.size;have y0:(0:Int)≤(y:Int):=by omega
               have y1:(y:Int)<(F.q:Int):=by omega
               replace hy:=Lib.hid hy;replace hry:=Lib.hid hry;replace hrow:=Lib.hid hrow;clear hcw;go_wp2_with (at_builtin; refine wpList_appN (n2:=m2) rfl (.tmp 123) (.tmp 127) rfl w10.heap.size _ _ _ Ax _ _ hoi hrx11 rfl rfl (rowL_length _ _ _).symm (by rw[rowL_length,rowL_length]; omega) hwlow ?_; intro v7 w12 ho7 hb12 hg12 hv12);rw[happ.out,←Nat.mul_succ]at ho7;go_roundw
               case rel=>exact⟨i+1,by omega,by go_num,ho7,hbq.trans (hb12.mono (Nat.le_refl _))⟩
               case measure=>simp[intOf]; omega
              ·obtain rfl:m1=i:=by omega
               rw[Nat.mul_comm m2 m1,←hNN.out]at hoi;obtain⟨A4,c4,rfl,hl4,hc4,hr4,hA4⟩:=hoi.parts;rw[rowL_length]at hl4;rw[rowL_length];have hown11:=hown10.below hbq (Nat.le_refl _);have hlt10:=hown10.lt0;have hs710:=hbx10.size;have hs711:=hbx11.size;have hdk:nb*k≤8*64:=Nat.mul_le_mul hnb8 (by have:=va.le; omega);clear hoi;go_wp2_with (at_builtin; refine wpList_appRow rfl (.tmp 130) (.tmp 132) rfl w7.heap.size _ (nb*k+j) _ hown11 A4 NN c4 hr4 (rowsL_length _ _ _ _) hl4 hc4 w10.heap.size hlt10 hA4 hs710 rfl rfl rfl (by omega) hs711 ?_; intro v8 w13 ho8 hb13);go_roundw
               case rel=>exact⟨j+1,by omega,by go_num,ho8,hbx11.trans (hb13.mono (Nat.le_refl _))⟩
               case measure=>simp[intOf]; omega
            ·obtain rfl:j=l.length:=by omega
             rw[hln.out]at hown9;go_wp2_with (fail);go_roundw
             case rel=>exact⟨k+1,by omega,by go_num,by rw[Nat.mul_succ]; exact hown9,hbx⟩
             case measure=>simp[intOf]; omega
          ·obtain rfl:na=k:=by omega
           obtain⟨A9,c9,rfl,hr9⟩:=hown.rdm;have hG9:=Lib.hid (hG2 w8 A9 c9 ((hrb.below hB8).more hB8.size) hr9);have hs8:s+1+1<w8.heap.size:=Nat.lt_of_lt_of_le hs7 hbw0.size;have fz9:=fz7.out.keep hbw0 hs7;obtain⟨a0,a1,a2,a3,a4,-⟩:=fa7.out.keep hbw0 (by omega);obtain⟨c0,c1,c2,c3,c4,-⟩:=fb7.out.keep hbw0 (by omega);obtain⟨d0,d1,d2⟩:=keep3 hbw0 hq7 kq7.out;clear hG2 hown hr9;go_wp2_with (fail);(with_reducible refine hG9.out.mono ?_);rintro e w14 ⟨A6,c6,Ag,cg,rfl,hr6,hA6,hru,hb14⟩;obtain⟨t0,t1,t2,t3,t4,g0,g1,g2,g3,g4⟩:=fz9.keep hb14 hs8;have hrf:=Lib.hid (hr6.set5 (b:=s+1+1) (fun b hb=>by have:=hA6 b hb; omega) (.int .i64 P) (.int .i64 Mf) (.slice A6 ml.length c6) (.int .i64 N) (.slice Ag n cg));have hruf:Hid (RdMU (((((w14.setCell ⟨s+1+1,0,none⟩ (.int .i64 P)).setCell ⟨s+1+1,1,none⟩ (.int .i64 Mf)).setCell ⟨s+1+1,2,none⟩ (.slice A6 ml.length c6)).setCell ⟨s+1+1,3,none⟩ (.int .i64 N)).setCell ⟨s+1+1,4,none⟩ (.slice Ag n cg)) w8.heap.size w14.heap.size Ag n rows):=hru.keepU fun p hp _=>set5_above (b:=s+1+1) (L:=w8.heap.size) hs8 _ _ _ _ _ p hp
           have hBf:Hid (Below w.heap.size w (((((w14.setCell ⟨s+1+1,0,none⟩ (.int .i64 P)).setCell ⟨s+1+1,1,none⟩ (.int .i64 Mf)).setCell ⟨s+1+1,2,none⟩ (.slice A6 ml.length c6)).setCell ⟨s+1+1,3,none⟩ (.int .i64 N)).setCell ⟨s+1+1,4,none⟩ (.slice Ag n cg))):=(hB8.trans (hb14.mono hB8.size)).trans ((set5 _ _ _ _ _).mono (by omega));have hsz:Hid ((((((w14.setCell ⟨s+1+1,0,none⟩ (.int .i64 P)).setCell ⟨s+1+1,1,none⟩ (.int .i64 Mf)).setCell ⟨s+1+1,2,none⟩ (.slice A6 ml.length c6)).setCell ⟨s+1+1,3,none⟩ (.int .i64 N)).setCell ⟨s+1+1,4,none⟩ (.slice Ag n cg)).heap.size=w14.heap.size):=by unfold Hid; simp[World.setCell]
           have hW9:w.heap.size≤w8.heap.size:=hB8.size;have hA9:∀ b,A6=some b→w.heap.size≤b.block:=fun b hb=>Nat.le_trans hW9 (hA6 b hb)
           have h5:=hruf.out.low hW9;rw[←hsz.out]at h5;have hfin:Hid (ResC P Mf N ml n rows E w (.returned (.tuple #[.agg #[.int .i64 P,.int .i64 Mf,.slice A6 ml.length c6,.int .i64 N,.slice Ag n cg],.int .i64 E])) (((((w14.setCell ⟨s+1+1,0,none⟩ (.int .i64 P)).setCell ⟨s+1+1,1,none⟩ (.int .i64 Mf)).setCell ⟨s+1+1,2,none⟩ (.slice A6 ml.length c6)).setCell ⟨s+1+1,3,none⟩ (.int .i64 N)).setCell ⟨s+1+1,4,none⟩ (.slice Ag n cg))):=by
            unfold ResC;exact⟨A6,c6,Ag,cg,rfl,hrf.out.more (by rw[hsz.out]; exact Nat.le_refl _),hA9,h5,hBf.out⟩
           clear hr6 hA6 hru hb14 hG9 h5 a0 a1 a2 a3 a4 c0 c1 c2 c3 c4 d0 d1 d2;go_wp2_with (fail);refine bodyPost_ret (v:=.tuple #[.agg #[.int .i64 P,.int .i64 Mf,.slice A6 ml.length c6,.int .i64 N,.slice Ag n cg],.int .i64 E]) (by simp[results,Tryz.results16,go_sem,t0,t1,t2,t3,t4]) rfl ?_
           first
            | exact hfin.out
            | (rw[hcp]; exact hfin.out)
        ·have hNb:(64:Int)<(NN:Int):=by omega
         have hN4:=Lib.hid (show 64<m1*m2 from by rw[←hNN]; omega);replace hNN:=Lib.hid hNN;clear hbs hrt hG;go_wp2_with (fail);(with_reducible refine hI6.out.mono ?_);rintro e w6 ⟨rfl,hb6⟩;have hB6:=hB5.trans (hb6.mono hB5.size);have hs6:s+1+1<w6.heap.size:=Nat.lt_of_lt_of_le hs5 hb6.size;have fz6:=Lib.hid (fz5.out.keep hb6 hs5);obtain⟨a0,a1,a2,a3,a4,-⟩:=fa5.out.keep hb6 (by omega);obtain⟨c0,c1,c2,c3,c4,-⟩:=fb5.out.keep hb6 (by omega);clear d0 d1 d2 hb6;have hBf:=Lib.hid (hB6.trans ((set5 (w3:=w6) (b:=s+1+1) (.int .i64 0) (.int .i64 0) (.slice none 0 0) (.int .i64 0) (.slice none 0 0)).mono (by omega)));obtain⟨q0,q1,q2,q3,q4,g0,g1,g2,g3,g4⟩:=fz6.out;go_wp2_with (fail);refine bodyPost_ret (v:=.tuple #[.agg #[.int .i64 0,.int .i64 0,.slice none 0 0,.int .i64 0,.slice none 0 0],.int .i64 4]) (by simp[results,Tryz.results16,go_sem,q0,q1,q2,q3,q4]) rfl (conP_4 hmt9.out hbsH.out hN4.out hBf.out)
       ·rw[show (basE F l S.m==0)=false from by rw[beq_eq_false_iff_ne]; exact hbs]at hI5;replace hI5:=Lib.hid hI5;have hbsH:=Lib.hid hbs;clear hbs;go_wp2_with (fail);(with_reducible refine hI5.out.mono ?_);rintro e w6 ⟨rfl,hb6⟩;have hB6:=hB5.trans (hb6.mono hB5.size);have hs6:s+1+1<w6.heap.size:=Nat.lt_of_lt_of_le hs5 hb6.size;have fz6:=Lib.hid (fz5.out.keep hb6 hs5);clear d0 d1 d2 hb6;have hBf:=Lib.hid (hB6.trans ((set5 (w3:=w6) (b:=s+1+1) (.int .i64 0) (.int .i64 0) (.slice none 0 0) (.int .i64 0) (.slice none 0 0)).mono (by omega)));obtain⟨q0,q1,q2,q3,q4,g0,g1,g2,g3,g4⟩:=fz6.out;go_wp2_with (fail);refine bodyPost_ret (v:=.tuple #[.agg #[.int .i64 0,.int .i64 0,.slice none 0 0,.int .i64 0,.slice none 0 0],.int .i64 9]) (by simp[results,Tryz.results16,go_sem,q0,q1,q2,q3,q4]) rfl (conP_9 hmt9.out hbsH.out hBf.out)
      ·have hd1:((nb:Int) !=(d:Int))=true:=by rw[bne_iff_ne]; omega
       have hd2:(nb !=d)=true:=by rw[bne_iff_ne]; exact hnd
       have hno:¬ Mt F S nb:=fun h=>hnd (by rw[hd]; exact h.2.2.symm)
       replace hr:=Lib.hid hr;replace hd:=Lib.hid hd;replace hpp:=Lib.hid hpp;replace hr0:=Lib.hid hr0;replace hnd:=Lib.hid hnd;go_wp2_with (fail);refine wp_region_held_drew (S:=fun w'=>(w'.cell? ⟨pb,0,none⟩=some (.int .i64 F.p)∧w'.cell? ⟨pb,1,none⟩=some (.int .i64 F.m))∧(w'.cell? ⟨qb,0,none⟩=some (.int .i64 S.p)∧w'.cell? ⟨qb,1,none⟩=some (.int .i64 S.m))∧w'.cell? ⟨s+1,4,none⟩=some (.slice Rb nb kb)) (by kernel_rfl) (by (try dsimp only); exact kG.out) (fun hHeld=>?_);refine tk 0 ?_; try simp only[pS]
       refine tk 1 ?_; try simp only[pS]
       refine tk 2 ?_; try simp only[pS]
       refine tk 3 ?_; try simp only[pS]
       refine tk 4 ?_; try simp only[pS]
       refine tk 5 ?_; try simp only[pS]
       refine tk 6 ?_; try simp only[pS]
       refine tk 7 ?_; try simp only[pS]
       refine tk 8 ?_; try simp only[pS]
       refine tk 9 ?_; try simp only[pS]
       refine tk 10 ?_; try simp only[pS]
       refine tk 11 ?_; try simp only[pS]
       refine tk 12 ?_; try simp only[pS]
       refine tk 13 ?_; try simp only[pS]
       refine tk 14 ?_; try simp only[pS]
       refine tk 15 ?_; try simp only[pS]
       refine tk 16 ?_; try simp only[pS]
       refine tk 17 ?_; try simp only[pS]
       refine tk 18 ?_; try simp only[pS]
       refine tk 19 ?_; try simp only[pS]
       refine tk 20 ?_; try simp only[pS]
       refine tk 21 ?_; try simp only[pS]
       refine tk 22 ?_; try simp only[pS]
       refine tk 23 ?_; try simp only[pS]
       refine wpAnyH_done (by kernel_rfl) ?_ _;have hBf:=Lib.hid (hB4.drew.trans ((set5 (w3:=w4.drew) (b:=s+1+1) (.int .i64 0) (.int .i64 0) (.slice none 0 0) (.int .i64 0) (.slice none 0 0)).mono (by omega)));obtain⟨q0,q1,q2,q3,q4,g0,g1,g2,g3,g4⟩:=fz4.out;go_wp2_with (fail);refine bodyPost_ret (v:=.tuple #[.agg #[.int .i64 0,.int .i64 0,.slice none 0 0,.int .i64 0,.slice none 0 0],.int .i64 10]) (by simp[results,Tryz.results16,go_sem,q0,q1,q2,q3,q4]) rfl (conP_10 hno hBf.out)
     ·have hr1:((r:Int) !=0)=true:=by rw[bne_iff_ne]; omega
      have hr2:(r !=0)=true:=by rw[bne_iff_ne]; exact hr0
      have hno:¬ Mt F S nb:=fun h=>hr0 (by rw[hr]; exact Nat.mod_eq_zero_of_dvd h.2.1)
      replace hr:=Lib.hid hr;replace hd:=Lib.hid hd;replace hpp:=Lib.hid hpp;replace hr0:=Lib.hid hr0;go_wp2_with (fail);refine wp_region_held_drew (S:=fun w'=>(w'.cell? ⟨pb,0,none⟩=some (.int .i64 F.p)∧w'.cell? ⟨pb,1,none⟩=some (.int .i64 F.m))∧(w'.cell? ⟨qb,0,none⟩=some (.int .i64 S.p)∧w'.cell? ⟨qb,1,none⟩=some (.int .i64 S.m))∧w'.cell? ⟨s+1,4,none⟩=some (.slice Rb nb kb)) (by kernel_rfl) (by (try dsimp only); exact kG.out) (fun hHeld=>?_);refine tk 0 ?_; try simp only[pS]
      refine tk 1 ?_; try simp only[pS]
      refine tk 2 ?_; try simp only[pS]
      refine tk 3 ?_; try simp only[pS]
      refine tk 4 ?_; try simp only[pS]
      refine tk 5 ?_; try simp only[pS]
      refine tk 6 ?_; try simp only[pS]
      refine tk 7 ?_; try simp only[pS]
      refine tk 8 ?_; try simp only[pS]
      refine tk 9 ?_; try simp only[pS]
      refine tk 10 ?_; try simp only[pS]
      refine tk 11 ?_; try simp only[pS]
      refine tk 12 ?_; try simp only[pS]
      refine tk 13 ?_; try simp only[pS]
      refine tu 14 ?_;try simp only[pS]
      refine tu 15 ?_;try simp only[pS]
      refine tu 16 ?_;try simp only[pS]
      refine tu 17 ?_;try simp only[pS]
      refine tu 18 ?_;try simp only[pS]
      refine tu 19 ?_;try simp only[pS]
      refine tu 20 ?_;try simp only[pS]
      refine tu 21 ?_;try simp only[pS]
      refine tu 22 ?_;try simp only[pS]
      refine tk 23 ?_; try simp only[pS]
      refine wpAnyH_done (by kernel_rfl) ?_ _;have hBf:=Lib.hid (hB4.drew.trans ((set5 (w3:=w4.drew) (b:=s+1+1) (.int .i64 0) (.int .i64 0) (.slice none 0 0) (.int .i64 0) (.slice none 0 0)).mono (by omega)));obtain⟨q0,q1,q2,q3,q4,g0,g1,g2,g3,g4⟩:=fz4.out;go_wp2_with (fail);refine bodyPost_ret (v:=.tuple #[.agg #[.int .i64 0,.int .i64 0,.slice none 0 0,.int .i64 0,.slice none 0 0],.int .i64 10]) (by simp[results,Tryz.results16,go_sem,q0,q1,q2,q3,q4]) rfl (conP_10 hno hBf.out)
    ·have hp1:((F.p:Int) !=(S.p:Int))=true:=by rw[bne_iff_ne]; omega
     have hp2:(F.p !=S.p)=true:=by rw[bne_iff_ne]; exact hpp
     replace hr:=Lib.hid hr;replace hd:=Lib.hid hd;have hno:¬ Mt F S nb:=fun h=>hpp h.1.symm
     replace hpp:=Lib.hid hpp;go_wp2_with (fail);refine wp_region_held_drew (S:=fun w'=>(w'.cell? ⟨pb,0,none⟩=some (.int .i64 F.p)∧w'.cell? ⟨pb,1,none⟩=some (.int .i64 F.m))∧(w'.cell? ⟨qb,0,none⟩=some (.int .i64 S.p)∧w'.cell? ⟨qb,1,none⟩=some (.int .i64 S.m))∧w'.cell? ⟨s+1,4,none⟩=some (.slice Rb nb kb)) (by kernel_rfl) (by (try dsimp only); exact kG.out) (fun hHeld=>?_);refine tk 0 ?_; try simp only[pS]
     refine tk 1 ?_; try simp only[pS]
     refine tk 2 ?_; try simp only[pS]
     refine tk 3 ?_; try simp only[pS]
     refine tk 4 ?_; try simp only[pS]
     refine tk 5 ?_; try simp only[pS]
     refine tu 6 ?_;try simp only[pS]
     refine tu 7 ?_;try simp only[pS]
     refine tu 8 ?_;try simp only[pS]
     refine tu 9 ?_;try simp only[pS]
     refine tu 10 ?_;try simp only[pS]
     refine tu 11 ?_;try simp only[pS]
     refine tk 12 ?_; try simp only[pS]
     refine tk 13 ?_; try simp only[pS]
     refine tu 14 ?_;try simp only[pS]
     refine tu 15 ?_;try simp only[pS]
     refine tu 16 ?_;try simp only[pS]
     refine tu 17 ?_;try simp only[pS]
     refine tu 18 ?_;try simp only[pS]
     refine tu 19 ?_;try simp only[pS]
     refine tu 20 ?_;try simp only[pS]
     refine tu 21 ?_;try simp only[pS]
     refine tu 22 ?_;try simp only[pS]
     refine tk 23 ?_; try simp only[pS]
     refine wpAnyH_done (by kernel_rfl) ?_ _;have hBf:=Lib.hid (hB4.drew.trans ((set5 (w3:=w4.drew) (b:=s+1+1) (.int .i64 0) (.int .i64 0) (.slice none 0 0) (.int .i64 0) (.slice none 0 0)).mono (by omega)));obtain⟨q0,q1,q2,q3,q4,g0,g1,g2,g3,g4⟩:=fz4.out;go_wp2_with (fail);refine bodyPost_ret (v:=.tuple #[.agg #[.int .i64 0,.int .i64 0,.slice none 0 0,.int .i64 0,.slice none 0 0],.int .i64 10]) (by simp[results,Tryz.results16,go_sem,q0,q1,q2,q3,q4]) rfl (conP_10 hno hBf.out)
end Go.Proofs.YtogfekjbpcfgmaaGreat
