/- Layer 19 of the program: GoppaDesigned of a valid description. -/
import Derived.Test.YtjdoneanohhkmaaGreatZtV10RGopC
import Derived.Test.YtjdoneanohhkmaaGreatZtV10RGcdW
import Derived.Test.YtjdoneanohhkmaaGreatZtV10RTk
namespace Go.Proofs.YtjdoneanohhkmaaGreat
open Go.RowKit Cw
attribute [local go_sem] Oper.semAt_some

def SqfP (S D:Desc)(poly:List Int):Prop:=(S.p=2∧S.m=1)∧Cop (plI D poly) (plI D (derI D poly))
open Classical in
noncomputable def desN (S D:Desc)(poly:List Int):Int:=if SqfP S D poly then 2*((poly.length - 1:Nat):Int)+1 else ((poly.length - 1:Nat):Int)+1
theorem desN_yes {S D:Desc} {poly:List Int} (h:SqfP S D poly):desN S D poly=2*((poly.length - 1:Nat):Int)+1:=if_pos h
theorem desN_no {S D:Desc} {poly:List Int} (h:¬ SqfP S D poly):desN S D poly=((poly.length - 1:Nat):Int)+1:=if_neg h
set_option maxRecDepth 100000 in
set_option maxHeartbeats 16000000 in
theorem aGopDes_ok (S:FD)(D:Desc)(poly pts:List Int)(A B A1 A2:Option Addr)(c b c1 c2:Nat)(w:World)(hr:Rd w w.heap.size A (modL S.toDesc))(hrB:Rd w w.heap.size B (modL D))(hS:Good S.p S.m (modL S.toDesc))(hD:Good D.p D.m (modL D))(hr1:Rd w w.heap.size A1 poly)(hr2:Rd w w.heap.size A2 pts)(hz:gopD S.toDesc D poly pts=0) :
  Calls Tryz.prog 88 #[.agg #[.int .i64 S.p,.int .i64 S.m,.slice A S.mod.length c,.int .i64 D.p,.int .i64 D.m,.slice B D.mod.length b,.slice A1 poly.length c1,.slice A2 pts.length c2]] w fun e w'=>e=.returned (.tuple #[.int .i64 (desN S.toDesc D poly),.int .i64 0])∧Below w.heap.size w w':=by
 obtain⟨hfit,⟨hn1,hn64⟩,hp1,hp2,htw,hl2,hl65,htop,hroot⟩:=gopD_zero hz;have hGo:=fun W x1 x2 x3 x4=>Lib.hid (goppa_D S D poly pts A B A1 A2 c b c1 c2 W x1 x2 hS hD x3 x4 (by unfold maxLen; omega) (by unfold maxLen; omega))
 obtain⟨s,hs⟩:∃ s,s=w.heap.size:=⟨_,rfl⟩;obtain⟨Z,hZ⟩:∃ Z,Z=w.alloc (.cells #[.int .i64 S.p,.int .i64 S.m,.slice A S.mod.length c,.int .i64 D.p,.int .i64 D.m,.slice B D.mod.length b,.slice A1 poly.length c1,.slice A2 pts.length c2] 44):=⟨_,rfl⟩;have hB:Below w.heap.size w Z:=by rw[hZ]; exact (Below.refl _ _).alloc (Nat.le_refl _) _
 have hZs:Z.heap.size=s+1:=by rw[hZ,hs]; simp
 have hbG:Hid (Bxs Z s [.int .i64 S.p,.int .i64 S.m,.slice A S.mod.length c,.int .i64 D.p,.int .i64 D.m,.slice B D.mod.length b,.slice A1 poly.length c1,.slice A2 pts.length c2]):=by rw[hZ,hs]; exact Bxs.new w _ _
 have hq:=hGo Z ((hr.below hB).more hB.size) ((hrB.below hB).more hB.size) ((hr1.below hB).more hB.size) ((hr2.below hB).more hB.size);have hr1Z:=hr1.below hB;have hzH:=Lib.hid hz;have hw1:IntKind.i64.wrap ((poly.length:Int) - 1)=((poly.length - 1:Nat):Int):=by rw[IntWalk.i64_in _ (by omega)]; omega
 obtain⟨t,ht⟩:∃ t,t=poly.length - 1:=⟨_,rfl⟩;have ht64:t≤64:=by omega
 rw[←ht]at hw1;have hsp:=S.toDesc.p256;have hsm:=S.toDesc.m8;have hE2:=Lib.hid (fun h=>@desN_yes S.toDesc D poly h);have hE1:=Lib.hid (fun h=>@desN_no S.toDesc D poly h);rw[←ht]at hE2 hE1;replace ht:=Lib.hid ht;replace hZ:=Lib.hid hZ;replace hZs:=Lib.hid hZs;clear hGo hz hfit hp1 hp2 htw htop hroot hr hrB hr1 hr2;go_enter Tryz.func88,Tryz.ntmps88;obtain⟨a0,a1,a2,a3,a4,a5,a6,a7⟩:=hbG.out.c8;go_wp2_with (fail);rw[←hZ.out];simp only[←hs];have hsw:w.heap.size≤s:=Nat.le_of_eq hs.symm;replace hs:=Lib.hid hs;go_wp2_with (fail);(with_reducible refine hq.out.mono ?_);rintro e w1 ⟨hb1,⟨hne,-⟩ | ⟨-,F,rt,k0,n,g,gb,Ab,cb,gv,rfl,-,-,-,rfl,hpr,-⟩⟩
 ·exact absurd hzH.out hne
 clear a0 a1 a2 a3 a4 a5 a6 a7 hq;have hZ1:s+1≤Z.heap.size:=Nat.le_of_eq hZs.out.symm;have hs1:s+1≤w1.heap.size:=Nat.le_trans hZ1 hb1.size;obtain⟨pb,hpb⟩:∃ pb,pb=w1.heap.size:=⟨_,rfl⟩;obtain⟨Y,hY⟩:∃ Y,Y=w1.alloc (.cells #[.int .i64 S.p,.int .i64 S.m,.slice A S.mod.length c,.pointer (some ⟨g,0,none⟩),.slice (some ⟨gb,0,none⟩) F.q F.q,.slice Ab n cb,.int .i64 S.m] 130):=⟨_,rfl⟩;have hbY:Below w1.heap.size w1 Y:=by rw[hY]; exact (Below.refl _ _).alloc (Nat.le_refl _) _
 have hYs:Y.heap.size=pb+1:=by rw[hY,hpb]; simp
 have hbP:Bxs Y pb [.int .i64 S.p,.int .i64 S.m,.slice A S.mod.length c,.pointer (some ⟨g,0,none⟩),.slice (some ⟨gb,0,none⟩) F.q F.q,.slice Ab n cb,.int .i64 S.m]:=by rw[hY,hpb]; exact Bxs.new w1 _ _
 have hbZY:Below Z.heap.size Z Y:=hb1.trans (hbY.mono hb1.size);have hbGY:Hid (Bxs Y s [.int .i64 S.p,.int .i64 S.m,.slice A S.mod.length c,.int .i64 F.p,.int .i64 F.m,.slice B F.mod.length b,.slice A1 poly.length c1,.slice A2 pts.length c2]):=hbG.out.keep hbZY (by omega);have hwZ:=hB.size;have hgY:GF Y Y.heap.size g F:=((hpr.below hbY).more hbY.size).gf;have hr1Y:=(hr1Z.below (hbZY.mono hwZ)).more (Nat.le_trans hwZ hbZY.size);have hbd:Below Y.heap.size Y Y.drew:=(Below.refl _ Y).drew;have hBY:=Lib.hid (hB.trans (hbZY.mono hwZ));have hDe:=Lib.hid (gDer_any F poly A1 c1 g Y.drew (hgY.below hbd) (hr1Y.below hbd) (by omega));have hGc:=fun Ad cd W x1 x2 x3=>Lib.hid (gGcd_any F poly (derI F.toDesc poly) A1 Ad c1 cd g W x1 x2 x3 (by omega) (by have:=derI_le F.toDesc poly; omega))
 have hS0:Hid (Y.cell? ⟨s,0,none⟩=some (.int .i64 S.p)∧Y.cell? ⟨s,1,none⟩=some (.int .i64 S.m)∧Y.cell? ⟨s,6,none⟩=some (.slice A1 poly.length c1)∧Y.cell? ⟨pb,3,none⟩=some (.pointer (some ⟨g,0,none⟩))):=⟨hbGY.out.c8.1,hbGY.out.c8.2.1,hbGY.out.c8.2.2.2.2.2.2.1,hbP.c7.2.2.2.1⟩;have hkp:∀ {Bn:Nat} {W W':World},Below Bn W W'→s<Bn→pb<Bn→Hid (W.cell? ⟨s,0,none⟩=some (.int .i64 S.p)∧W.cell? ⟨s,1,none⟩=some (.int .i64 S.m)∧W.cell? ⟨s,6,none⟩=some (.slice A1 poly.length c1)∧W.cell? ⟨pb,3,none⟩=some (.pointer (some ⟨g,0,none⟩)))→Hid (W'.cell? ⟨s,0,none⟩=some (.int .i64 S.p)∧W'.cell? ⟨s,1,none⟩=some (.int .i64 S.m)∧W'.cell? ⟨s,6,none⟩=some (.slice A1 poly.length c1)∧W'.cell? ⟨pb,3,none⟩=some (.pointer (some ⟨g,0,none⟩))):=fun {Bn} {W} {W'} hb h1 h2 ⟨y0,y1,y6,x3⟩ =>
  ⟨(hb.cell (p:=⟨s,0,none⟩) h1).trans y0,(hb.cell (p:=⟨s,1,none⟩) h1).trans y1,(hb.cell (p:=⟨s,6,none⟩) h1).trans y6,(hb.cell (p:=⟨pb,3,none⟩) h2).trans x3⟩
 have hsY:s<Y.heap.size:=by omega
 have hpY:pb<Y.heap.size:=by omega
 have w2a:IntKind.i64.wrap (2*(t:Int))=2*(t:Int):=by rw[IntWalk.i64_in _ (by omega)]
 have w2b:IntKind.i64.wrap (2*(t:Int)+1)=2*(t:Int)+1:=by rw[IntWalk.i64_in _ (by omega)]
 have w2c:IntKind.i64.wrap ((t:Int)+1)=(t:Int)+1:=by rw[IntWalk.i64_in _ (by omega)]
 replace hpb:=Lib.hid hpb;replace hY:=Lib.hid hY;clear hpr hbP hr1Z;obtain⟨q0,q1,q2,q3,q4,q5,q6,q7⟩:=hbGY.out.c8;rw[hY.out]at q6;by_cases h2:S.p=2
 ·have h2b:((S.p:Int)==2)=true:=by rw[beq_iff_eq]; omega
  by_cases h3:S.m=1
  ·have h3b:((S.m:Int)==1)=true:=by rw[beq_iff_eq]; omega
   by_cases hco:Cop (plI F.toDesc poly) (plI F.toDesc (derI F.toDesc poly))
   ·have hE:Hid (desN S.toDesc F.toDesc poly=2*(t:Int)+1):=hE2.out ⟨⟨h2,h3⟩,hco⟩;replace h2:=Lib.hid h2;replace h3:=Lib.hid h3;replace hco:=Lib.hid hco;go_wp2_with (fail);rw[←hY.out];simp only[←hpb.out];clear q0 q1 q2 q3 q4 q5 q6 q7;refine wp_region_held_drew (S:=fun w'=>w'.cell? ⟨s,0,none⟩=some (.int .i64 S.p)∧w'.cell? ⟨s,1,none⟩=some (.int .i64 S.m)∧w'.cell? ⟨s,6,none⟩=some (.slice A1 poly.length c1)∧w'.cell? ⟨pb,3,none⟩=some (.pointer (some ⟨g,0,none⟩))) (by kernel_rfl) (by (try dsimp only); exact hS0.out) (fun hHeld=>?_);refine tk 0 ?_; try simp only[pS]
    refine tk 1 ?_; try simp only[pS]
    refine tk 2 ?_; try simp only[pS]
    refine tk 3 ?_; try simp only[pS]
    refine tk 4 ?_; try simp only[pS]
    refine tk 5 ?_; try simp only[pS]
    refine tk 6 ?_; try simp only[pS]
    refine tk 7 ?_; try simp only[pS]
    refine tk 8 ?_; try simp only[pS]
    refine tk 9 ?_; try simp only[pS]
    refine tk 10 ?_; try simp only[pS]
    refine tk 11 ?_; try simp only[pS]
    refine tk 12 ?_; try simp only[pS]
    refine tk 13 ?_; try simp only[pS]
    refine tk 14 ?_; try simp only[pS]
    refine tk 15 ?_; try simp only[pS]
    refine tk 16 ?_; try simp only[pS]
    refine tk 17 ?_; try simp only[pS]
    refine tk 18 ?_; try simp only[pS]
    refine rd 19 fun K hK=>?_
    go_simp;go_at_call 167;(with_reducible refine (hDe).out.mono ?_);rintro e w3 ⟨Ad,cd,rfl,hrd,-,-,-,hb3⟩;have hb3':=hbd.trans hb3;have hS3:=hkp hb3' hsY hpY hS0;have hq9:=hGc Ad cd w3 ((hgY.below hb3').more hb3'.size) ((hr1Y.below hb3').more hb3'.size) hrd;go_wp2_with (fail);refine hK.out _ _ (by (try dsimp only); exact hS3.out) (fun hHeld=>?_);clear hK K;try simp only[pS]
    refine rd 20 fun K hK=>?_
    go_simp;go_at_call 166;(with_reducible refine (hq9).out.mono ?_);rintro e w4 ⟨l,Al,cl,rfl,hrl,hgc,hb4⟩;have hb34:=hb3'.trans (hb4.mono hb3'.size);have hS4:=hkp hb34 hsY hpY hS0;have hl1:((l.length:Int)==1)=true:=beq_iff_eq.2 (by have:=hgc.one.2 hco.out; omega);have hbe:=Lib.hid (hBY.out.trans (hb34.mono hBY.out.size));clear hgc hrl;go_wp2_with (fail);refine hK.out _ _ (by (try dsimp only); exact hS4.out) (fun hHeld=>?_);clear hK K;try simp only[pS]
    refine tk 21 ?_; try simp only[pS]
    refine tk 22 ?_; try simp only[pS]
    refine tk 23 ?_; try simp only[pS]
    refine wpAnyH_done (by kernel_rfl) ?_ _;go_wp2_with (fail);go_ret2;rw[hE.out];exact⟨rfl,hbe.out⟩
   ·have hE:Hid (desN S.toDesc F.toDesc poly=(t:Int)+1):=hE1.out fun h=>hco h.2
    replace h2:=Lib.hid h2;replace h3:=Lib.hid h3;replace hco:=Lib.hid hco;go_wp2_with (fail);rw[←hY.out];simp only[←hpb.out];clear q0 q1 q2 q3 q4 q5 q6 q7;refine wp_region_held_drew (S:=fun w'=>w'.cell? ⟨s,0,none⟩=some (.int .i64 S.p)∧w'.cell? ⟨s,1,none⟩=some (.int .i64 S.m)∧w'.cell? ⟨s,6,none⟩=some (.slice A1 poly.length c1)∧w'.cell? ⟨pb,3,none⟩=some (.pointer (some ⟨g,0,none⟩))) (by kernel_rfl) (by (try dsimp only); exact hS0.out) (fun hHeld=>?_);refine tk 0 ?_; try simp only[pS]
    refine tk 1 ?_; try simp only[pS]
    refine tk 2 ?_; try simp only[pS]
    refine tk 3 ?_; try simp only[pS]
    refine tk 4 ?_; try simp only[pS]
    refine tk 5 ?_; try simp only[pS]
    refine tk 6 ?_; try simp only[pS]
    refine tk 7 ?_; try simp only[pS]
    refine tk 8 ?_; try simp only[pS]
    refine tk 9 ?_; try simp only[pS]
    refine tk 10 ?_; try simp only[pS]
    refine tk 11 ?_; try simp only[pS]
    refine tk 12 ?_; try simp only[pS]
    refine tk 13 ?_; try simp only[pS]
    refine tk 14 ?_; try simp only[pS]
    refine tk 15 ?_; try simp only[pS]
    refine tk 16 ?_; try simp only[pS]
    refine tk 17 ?_; try simp only[pS]
    refine tk 18 ?_; try simp only[pS]
    refine rd 19 fun K hK=>?_
    go_simp;go_at_call 167;(with_reducible refine (hDe).out.mono ?_);rintro e w3 ⟨Ad,cd,rfl,hrd,-,-,-,hb3⟩;have hb3':=hbd.trans hb3;have hS3:=hkp hb3' hsY hpY hS0;have hq9:=hGc Ad cd w3 ((hgY.below hb3').more hb3'.size) ((hr1Y.below hb3').more hb3'.size) hrd;go_wp2_with (fail);refine hK.out _ _ (by (try dsimp only); exact hS3.out) (fun hHeld=>?_);clear hK K;try simp only[pS]
    refine rd 20 fun K hK=>?_
    go_simp;go_at_call 166;(with_reducible refine (hq9).out.mono ?_);rintro e w4 ⟨l,Al,cl,rfl,hrl,hgc,hb4⟩;have hb34:=hb3'.trans (hb4.mono hb3'.size);have hS4:=hkp hb34 hsY hpY hS0;have hl1:((l.length:Int)==1)=false:=beq_eq_false_iff_ne.2 (fun e9=>hco.out (hgc.one.1 (by omega)));have hbe:=Lib.hid (hBY.out.trans (hb34.mono hBY.out.size));clear hgc hrl;go_wp2_with (fail);refine hK.out _ _ (by (try dsimp only); exact hS4.out) (fun hHeld=>?_);clear hK K;try simp only[pS]
    refine tk 21 ?_; try simp only[pS]
    refine tk 22 ?_; try simp only[pS]
    refine tk 23 ?_; try simp only[pS]
    refine wpAnyH_done (by kernel_rfl) ?_ _;go_wp2_with (fail);go_ret2;rw[hE.out];exact⟨rfl,hbe.out⟩
  ·have h3b:((S.m:Int)==1)=false:=by rw[beq_eq_false_iff_ne]; omega
   have hE:Hid (desN S.toDesc F.toDesc poly=(t:Int)+1):=hE1.out fun h=>h3 h.1.2
   replace h2:=Lib.hid h2;replace h3:=Lib.hid h3;go_wp2_with (fail);rw[←hY.out];simp only[←hpb.out];clear q0 q1 q2 q3 q4 q5 q6 q7;refine wp_region_held_drew (S:=fun w'=>w'.cell? ⟨s,0,none⟩=some (.int .i64 S.p)∧w'.cell? ⟨s,1,none⟩=some (.int .i64 S.m)∧w'.cell? ⟨s,6,none⟩=some (.slice A1 poly.length c1)∧w'.cell? ⟨pb,3,none⟩=some (.pointer (some ⟨g,0,none⟩))) (by kernel_rfl) (by (try dsimp only); exact hS0.out) (fun hHeld=>?_);refine tk 0 ?_; try simp only[pS]
   refine tk 1 ?_; try simp only[pS]
   refine tk 2 ?_; try simp only[pS]
   refine tk 3 ?_; try simp only[pS]
   refine tk 4 ?_; try simp only[pS]
   refine tk 5 ?_; try simp only[pS]
   refine tk 6 ?_; try simp only[pS]
   refine tk 7 ?_; try simp only[pS]
   refine tk 8 ?_; try simp only[pS]
   refine tk 9 ?_; try simp only[pS]
   refine tk 10 ?_; try simp only[pS]
   refine tu 11 ?_;try simp only[pS]
   refine tu 12 ?_;try simp only[pS]
   refine tu 13 ?_;try simp only[pS]
   refine tu 14 ?_;try simp only[pS]
   refine tu 15 ?_;try simp only[pS]
   refine tu 16 ?_;try simp only[pS]
   refine tu 17 ?_;try simp only[pS]
   refine tu 18 ?_;try simp only[pS]
   refine tu 19 ?_;try simp only[pS]
   refine tu 20 ?_;try simp only[pS]
   refine tu 21 ?_;try simp only[pS]
   refine tu 22 ?_;try simp only[pS]
   refine tk 23 ?_; try simp only[pS]
   refine wpAnyH_done (by kernel_rfl) ?_ _;go_wp2_with (fail);go_ret2;rw[hE.out];exact⟨rfl,hBY.out.drew⟩
 ·have h2b:((S.p:Int)==2)=false:=by rw[beq_eq_false_iff_ne]; omega
  have hE:Hid (desN S.toDesc F.toDesc poly=(t:Int)+1):=hE1.out fun h=>h2 h.1.1
  replace h2:=Lib.hid h2;go_wp2_with (fail);rw[←hY.out];simp only[←hpb.out];clear q0 q1 q2 q3 q4 q5 q6 q7;refine wp_region_held_drew (S:=fun w'=>w'.cell? ⟨s,0,none⟩=some (.int .i64 S.p)∧w'.cell? ⟨s,1,none⟩=some (.int .i64 S.m)∧w'.cell? ⟨s,6,none⟩=some (.slice A1 poly.length c1)∧w'.cell? ⟨pb,3,none⟩=some (.pointer (some ⟨g,0,none⟩))) (by kernel_rfl) (by (try dsimp only); exact hS0.out) (fun hHeld=>?_);refine tk 0 ?_; try simp only[pS]
  refine tk 1 ?_; try simp only[pS]
  refine tk 2 ?_; try simp only[pS]
  refine tk 3 ?_; try simp only[pS]
  refine tk 4 ?_; try simp only[pS]
  refine tu 5 ?_;try simp only[pS]
  refine tu 6 ?_;try simp only[pS]
  refine tu 7 ?_;try simp only[pS]
  refine tu 8 ?_;try simp only[pS]
  refine tk 9 ?_; try simp only[pS]
  refine tk 10 ?_; try simp only[pS]
  refine tu 11 ?_;try simp only[pS]
  refine tu 12 ?_;try simp only[pS]
  refine tu 13 ?_;try simp only[pS]
  refine tu 14 ?_;try simp only[pS]
  refine tu 15 ?_;try simp only[pS]
  refine tu 16 ?_;try simp only[pS]
  refine tu 17 ?_;try simp only[pS]
  refine tu 18 ?_;try simp only[pS]
  refine tu 19 ?_;try simp only[pS]
  refine tu 20 ?_;try simp only[pS]
  refine tu 21 ?_;try simp only[pS]
  refine tu 22 ?_;try simp only[pS]
  refine tk 23 ?_; try simp only[pS]
  refine wpAnyH_done (by kernel_rfl) ?_ _;go_wp2_with (fail);go_ret2;rw[hE.out];exact⟨rfl,hBY.out.drew⟩
end Go.Proofs.YtjdoneanohhkmaaGreat
