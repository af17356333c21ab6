/- Layer 19 of the program: GoppaDesigned of a valid description. -/
import Derived.Test.YtogfekjbpcfgmaaGreatZtkBalP
set_option maxRecDepth 100000
set_option maxHeartbeats 16000000
set_option linter.unusedVariables false
namespace Go.Proofs
open Go.RowKit Cw
def Qsv (S D:Desc)(poly:List Int):Prop:=(S.p=2∧S.m=1)∧Cop (plI D poly) (plI D (Qh3 D poly))
open Classical in
noncomputable def Qig (S D:Desc)(poly:List Int):Int:=if Qsv S D poly then 2*((poly.length - 1:Nat):Int)+1 else ((poly.length - 1:Nat):Int)+1
theorem QfX {S D:Desc} {poly:List Int} (h:Qsv S D poly):Qig S D poly=2*((poly.length - 1:Nat):Int)+1:=if_pos h
theorem QhZ {S D:Desc} {poly:List Int} (h:¬ Qsv S D poly):Qig S D poly=((poly.length - 1:Nat):Int)+1:=if_neg h
theorem Qoi (S:FD)(D:Desc)(poly pts:List Int)(A B I A2:Option Addr)(c b c1 c2:Nat)(w:World)(hr:Rd w w.heap.size A (Qan S.z))(a9:Rd w w.heap.size B (Qan D))(hS:Qcq S.p S.m (Qan S.z))(hD:Qcq D.p D.m (Qan D))(aI:Rd w w.heap.size I poly)(ba:Rd w w.heap.size A2 pts)(hz:QcP S.z D poly pts=0) :
  Calls Tryz.prog 61 #[.agg #[.int .i64 S.p,.int .i64 S.m,.slice A S.mod.length c,.int .i64 D.p,.int .i64 D.m,.slice B D.mod.length b,.slice I poly.length c1,.slice A2 pts.length c2]] w fun e w'=>e=.returned (.tuple #[.int .i64 (Qig S.z D poly),.int .i64 0])∧Below w.heap.size w w':=by
 obtain⟨bu,⟨bY,bZ⟩,bv,bw,bx,b0,b1,bz,bA⟩:=QbW hz;have bb:=fun W x1 x2 x3 x4=>η (QjG S D poly pts A B I A2 c b c1 c2 W x1 x2 hS hD x3 x4 (by unfold maxLen;omega) (by unfold maxLen;omega))
 obtain⟨s,hs⟩:=ε (w.heap.size);obtain⟨Z,hZ⟩:=ε (w.alloc (.cells #[.int .i64 S.p,.int .i64 S.m,.slice A S.mod.length c,.int .i64 D.p,.int .i64 D.m,.slice B D.mod.length b,.slice I poly.length c1,.slice A2 pts.length c2] 44));have U:Below w.heap.size w Z:=by rw[hZ];exact β
 have aJ:Z.heap.size=s+1:=by rw[hZ,hs];simp
 have bc:Hid (Bxs Z s [.int .i64 S.p,.int .i64 S.m,.slice A S.mod.length c,.int .i64 D.p,.int .i64 D.m,.slice B D.mod.length b,.slice I poly.length c1,.slice A2 pts.length c2]):=by rw[hZ,hs];exact Bxs.new w _ _
 have hq:=bb Z (hr.bm U) (a9.bm U) (aI.bm U) (ba.bm U);have bf:=aI.below U;have bo:=η hz;have bp:IntKind.i64.wrap ((poly.length:Int) - 1)=((poly.length - 1:Nat):Int):=by rw[IntWalk.i64_in _ (by omega)];omega
 obtain⟨t,ht⟩:=ε (poly.length - 1);have bP:t≤64:=by omega
 rw[←ht]at bp;have bQ:=S.z.p256;have bR:=S.z.m8;have bg:=η (fun h=>@QfX S.z D poly h);have ap:=η (fun h=>@QhZ S.z D poly h);rw[←ht]at bg ap;replace ht:=η ht;replace hZ:=η hZ;replace aJ:=η aJ;clear bb hz bu bv bw bx bz bA hr a9 aI ba;go_enter Tryz.func61,Tryz.ntmps61;obtain⟨a0,a1,a2,a3,a4,a5,a6,a7⟩:=bc.out.c8;go_wp2_with fail;rw[←hZ.out];simp only[←hs];have bS:w.heap.size≤s:=Nat.le_of_eq hs.symm;replace hs:=η hs;go_wp2_with fail;(with_reducible refine hq.out.mono ?_);rintro e w1 ⟨aS,⟨bJ,-⟩ |⟨-,F,rt,k0,n,g,gb,Ab,cb,gv,rfl,-,-,-,rfl,bk,-⟩⟩
 ·exact absurd bo.out bJ
 clear a0 a1 a2 a3 a4 a5 a6 a7 hq;have bq:s+1≤Z.heap.size:=Nat.le_of_eq aJ.out.symm;have bT:s+1≤w1.heap.size:=τ bq aS.size;obtain⟨O,ab⟩:=ε (w1.heap.size);obtain⟨Y,X⟩:=ε (w1.alloc (.cells #[.int .i64 S.p,.int .i64 S.m,.slice A S.mod.length c,.pointer (some ⟨g,0,none⟩),.slice (some ⟨gb,0,none⟩) F.q F.q,.slice Ab n cb,.int .i64 S.m] 154));have aK:Below w1.heap.size w1 Y:=by rw[X];exact β
 have bU:Y.heap.size=O+1:=by rw[X,ab];simp
 have bh:Bxs Y O [.int .i64 S.p,.int .i64 S.m,.slice A S.mod.length c,.pointer (some ⟨g,0,none⟩),.slice (some ⟨gb,0,none⟩) F.q F.q,.slice Ab n cb,.int .i64 S.m]:=by rw[X,ab];exact Bxs.new w1 _ _
 have ar:Below Z.heap.size Z Y:=ζ aS aK;have au:Hid (Bxs Y s [.int .i64 S.p,.int .i64 S.m,.slice A S.mod.length c,.int .i64 F.p,.int .i64 F.m,.slice B F.mod.length b,.slice I poly.length c1,.slice A2 pts.length c2]):=bc.out.keep ar (by omega);have aL:=U.size;have aM:GF Y Y.heap.size g F:=(bk.bm aK).gf;have aN:=(bf.below (ar.mono aL)).more (τ aL ar.size);have av:Below Y.heap.size Y Y.drew:=(Below.refl _ Y).drew;have ai:=η (U.trans (ar.mono aL));have bi:=η (Qsf F poly I c1 g Y.drew (aM.below av) (aN.below av) (by omega));have bj:=fun Ad cd W x1 x2 x3=>η (Qse F poly (Qh3 F.z poly) I Ad c1 cd g W x1 x2 x3 (by omega) (by have:=Qus F.z poly;omega))
 have aa:Hid (Y.cell? ⟨s,0,none⟩=some (.int .i64 S.p)∧Y.cell? ⟨s,1,none⟩=some (.int .i64 S.m)∧Y.cell? ⟨s,6,none⟩=some (.slice I poly.length c1)∧Y.cell? ⟨O,3,none⟩=some (.pointer (some ⟨g,0,none⟩))):=⟨au.out.c8.1,au.out.c8.2.1,au.out.c8.2.2.2.2.2.2.1,bh.c7.2.2.2.1⟩;have aw:∀ {Bn:Nat} {W W':World},Below Bn W W'→s<Bn→O<Bn→Hid (W.cell? ⟨s,0,none⟩=some (.int .i64 S.p)∧W.cell? ⟨s,1,none⟩=some (.int .i64 S.m)∧W.cell? ⟨s,6,none⟩=some (.slice I poly.length c1)∧W.cell? ⟨O,3,none⟩=some (.pointer (some ⟨g,0,none⟩)))→Hid (W'.cell? ⟨s,0,none⟩=some (.int .i64 S.p)∧W'.cell? ⟨s,1,none⟩=some (.int .i64 S.m)∧W'.cell? ⟨s,6,none⟩=some (.slice I poly.length c1)∧W'.cell? ⟨O,3,none⟩=some (.pointer (some ⟨g,0,none⟩))):=fun {Bn} {W} {W'} hb h1 T ⟨y0,y1,y6,x3⟩ =>
  ⟨(hb.cell (p:=⟨s,0,none⟩) h1).trans y0,(hb.cell (p:=⟨s,1,none⟩) h1).trans y1,(hb.cell (p:=⟨s,6,none⟩) h1).trans y6,(hb.cell (p:=⟨O,3,none⟩) T).trans x3⟩
 have ax:s<Y.heap.size:=by omega
 have ay:O<Y.heap.size:=by omega
 have bV:IntKind.i64.wrap (2*(t:Int))=2*(t:Int):=by rw[IntWalk.i64_in _ (by omega)]
 have bW:IntKind.i64.wrap (2*(t:Int)+1)=2*(t:Int)+1:=by rw[IntWalk.i64_in _ (by omega)]
 have bX:IntKind.i64.wrap ((t:Int)+1)=(t:Int)+1:=by rw[IntWalk.i64_in _ (by omega)]
 replace ab:=η ab;replace X:=η X;clear bk bh bf;obtain⟨q0,q1,q2,q3,q4,q5,q6,q7⟩:=au.out.c8;rw[X.out]at q6;by_cases T:S.p=2
 ·have br:((S.p:Int)==2)=true:=by rw[beq_iff_eq];omega
  by_cases h3:S.m=1
  ·have bs:((S.m:Int)==1)=true:=by rw[beq_iff_eq];omega
   by_cases ad:Cop (plI F.z poly) (plI F.z (Qh3 F.z poly))
   ·have hE:Hid (Qig S.z F.z poly=2*(t:Int)+1):=bg.out ⟨⟨T,h3⟩,ad⟩;replace T:=η T;replace h3:=η h3;replace ad:=η ad;go_wp2_with fail;rw[←X.out];simp only[←ab.out];clear q0 q1 q2 q3 q4 q5 q6 q7;refine wp_region_held_drew (S:=fun w'=>w'.cell? ⟨s,0,none⟩=some (.int .i64 S.p)∧w'.cell? ⟨s,1,none⟩=some (.int .i64 S.m)∧w'.cell? ⟨s,6,none⟩=some (.slice I poly.length c1)∧w'.cell? ⟨O,3,none⟩=some (.pointer (some ⟨g,0,none⟩))) (by kernel_rfl) (by (try dsimp only);exact aa.out) (fun hHeld=>?_);refine tk 0 ?_;simp only[pS]
    refine tk 1 ?_;simp only[pS]
    refine tk 2 ?_;simp only[pS]
    refine tk 3 ?_;simp only[pS]
    refine tk 4 ?_;simp only[pS]
    refine tk 5 ?_;simp only[pS]
    refine tk 6 ?_;simp only[pS]
    refine tk 7 ?_;simp only[pS]
    refine tk 8 ?_;simp only[pS]
    refine tk 9 ?_;simp only[pS]
    refine tk 10 ?_;simp only[pS]
    refine tk 11 ?_;simp only[pS]
    refine tk 12 ?_;simp only[pS]
    refine tk 13 ?_;simp only[pS]
    refine tk 14 ?_;simp only[pS]
    refine tk 15 ?_;simp only[pS]
    refine tk 16 ?_;simp only[pS]
    refine tk 17 ?_;simp only[pS]
    refine tk 18 ?_;simp only[pS]
    refine rd 19 fun K V=>?_
    go_simp;go_at_call 126;(with_reducible refine (bi).out.mono ?_);rintro e w3 ⟨Ad,cd,rfl,aT,-,-,-,aU⟩;have J:=av.trans aU;have aO:=aw J ax ay aa;have aP:=bj Ad cd w3 (aM.bm J) (aN.bm J) aT;go_wp2_with fail;refine V.out _ _ aO.out fun hHeld=>?_;clear V K;try simp only[pS]
    refine rd 20 fun K V=>?_
    go_simp;go_at_call 125;(with_reducible refine (aP).out.mono ?_);rintro e w4 ⟨l,Al,cl,rfl,aV,an,aW⟩;have aj:=ζ J aW;have aQ:=aw aj ax ay aa;have bt:((l.length:Int)==1)=true:=beq_iff_eq.2 (by have:=an.one.2 ad.out;omega);have aR:=η (ai.out.trans (aj.mono ai.out.size));clear an aV;go_wp2_with fail;refine V.out _ _ aQ.out fun hHeld=>?_;clear V K;try simp only[pS]
    refine tk 21 ?_;simp only[pS]
    refine tk 22 ?_;simp only[pS]
    refine tk 23 ?_;simp only[pS]
    refine δ ?_;go_wp2_with fail;go_ret2;rw[hE.out];exact⟨rfl,aR.out⟩
   ·have hE:Hid (Qig S.z F.z poly=(t:Int)+1):=ap.out fun h=>ad h.2
    replace T:=η T;replace h3:=η h3;replace ad:=η ad;go_wp2_with fail;rw[←X.out];simp only[←ab.out];clear q0 q1 q2 q3 q4 q5 q6 q7;refine wp_region_held_drew (S:=fun w'=>w'.cell? ⟨s,0,none⟩=some (.int .i64 S.p)∧w'.cell? ⟨s,1,none⟩=some (.int .i64 S.m)∧w'.cell? ⟨s,6,none⟩=some (.slice I poly.length c1)∧w'.cell? ⟨O,3,none⟩=some (.pointer (some ⟨g,0,none⟩))) (by kernel_rfl) (by (try dsimp only);exact aa.out) (fun hHeld=>?_);refine tk 0 ?_;simp only[pS]
    refine tk 1 ?_;simp only[pS]
    refine tk 2 ?_;simp only[pS]
    refine tk 3 ?_;simp only[pS]
    refine tk 4 ?_;simp only[pS]
    refine tk 5 ?_;simp only[pS]
    refine tk 6 ?_;simp only[pS]
    refine tk 7 ?_;simp only[pS]
    refine tk 8 ?_;simp only[pS]
    refine tk 9 ?_;simp only[pS]
    refine tk 10 ?_;simp only[pS]
    refine tk 11 ?_;simp only[pS]
    refine tk 12 ?_;simp only[pS]
    refine tk 13 ?_;simp only[pS]
    refine tk 14 ?_;simp only[pS]
    refine tk 15 ?_;simp only[pS]
    refine tk 16 ?_;simp only[pS]
    refine tk 17 ?_;simp only[pS]
    refine tk 18 ?_;simp only[pS]
    refine rd 19 fun K V=>?_
    go_simp;go_at_call 126;(with_reducible refine (bi).out.mono ?_);rintro e w3 ⟨Ad,cd,rfl,aT,-,-,-,aU⟩;have J:=av.trans aU;have aO:=aw J ax ay aa;have aP:=bj Ad cd w3 (aM.bm J) (aN.bm J) aT;go_wp2_with fail;refine V.out _ _ aO.out fun hHeld=>?_;clear V K;try simp only[pS]
    refine rd 20 fun K V=>?_
    go_simp;go_at_call 125;(with_reducible refine (aP).out.mono ?_);rintro e w4 ⟨l,Al,cl,rfl,aV,an,aW⟩;have aj:=ζ J aW;have aQ:=aw aj ax ay aa;have bt:((l.length:Int)==1)=false:=beq_eq_false_iff_ne.2 (fun e9=>ad.out (an.one.1 (by omega)));have aR:=η (ai.out.trans (aj.mono ai.out.size));clear an aV;go_wp2_with fail;refine V.out _ _ aQ.out fun hHeld=>?_;clear V K;try simp only[pS]
    refine tk 21 ?_;simp only[pS]
    refine tk 22 ?_;simp only[pS]
    refine tk 23 ?_;simp only[pS]
    refine δ ?_;go_wp2_with fail;go_ret2;rw[hE.out];exact⟨rfl,aR.out⟩
  ·have bs:((S.m:Int)==1)=false:=by rw[beq_eq_false_iff_ne];omega
   have hE:Hid (Qig S.z F.z poly=(t:Int)+1):=ap.out fun h=>h3 h.1.2
   replace T:=η T;replace h3:=η h3;go_wp2_with fail;rw[←X.out];simp only[←ab.out];clear q0 q1 q2 q3 q4 q5 q6 q7;refine wp_region_held_drew (S:=fun w'=>w'.cell? ⟨s,0,none⟩=some (.int .i64 S.p)∧w'.cell? ⟨s,1,none⟩=some (.int .i64 S.m)∧w'.cell? ⟨s,6,none⟩=some (.slice I poly.length c1)∧w'.cell? ⟨O,3,none⟩=some (.pointer (some ⟨g,0,none⟩))) (by kernel_rfl) (by (try dsimp only);exact aa.out) (fun hHeld=>?_);refine tk 0 ?_;simp only[pS]
   refine tk 1 ?_;simp only[pS]
   refine tk 2 ?_;simp only[pS]
   refine tk 3 ?_;simp only[pS]
   refine tk 4 ?_;simp only[pS]
   refine tk 5 ?_;simp only[pS]
   refine tk 6 ?_;simp only[pS]
   refine tk 7 ?_;simp only[pS]
   refine tk 8 ?_;simp only[pS]
   refine tk 9 ?_;simp only[pS]
   refine tk 10 ?_;simp only[pS]
   refine tu 11 ?_;simp only[pS]
   refine tu 12 ?_;simp only[pS]
   refine tu 13 ?_;simp only[pS]
   refine tu 14 ?_;simp only[pS]
   refine tu 15 ?_;simp only[pS]
   refine tu 16 ?_;simp only[pS]
   refine tu 17 ?_;simp only[pS]
   refine tu 18 ?_;simp only[pS]
   refine tu 19 ?_;simp only[pS]
   refine tu 20 ?_;simp only[pS]
   refine tu 21 ?_;simp only[pS]
   refine tu 22 ?_;simp only[pS]
   refine tk 23 ?_;simp only[pS]
   refine δ ?_;go_wp2_with fail;go_ret2;rw[hE.out];exact⟨rfl,ai.out.drew⟩
 ·have br:((S.p:Int)==2)=false:=by rw[beq_eq_false_iff_ne];omega
  have hE:Hid (Qig S.z F.z poly=(t:Int)+1):=ap.out fun h=>T h.1.1
  replace T:=η T;go_wp2_with fail;rw[←X.out];simp only[←ab.out];clear q0 q1 q2 q3 q4 q5 q6 q7;refine wp_region_held_drew (S:=fun w'=>w'.cell? ⟨s,0,none⟩=some (.int .i64 S.p)∧w'.cell? ⟨s,1,none⟩=some (.int .i64 S.m)∧w'.cell? ⟨s,6,none⟩=some (.slice I poly.length c1)∧w'.cell? ⟨O,3,none⟩=some (.pointer (some ⟨g,0,none⟩))) (by kernel_rfl) (by (try dsimp only);exact aa.out) (fun hHeld=>?_);refine tk 0 ?_;simp only[pS]
  refine tk 1 ?_;simp only[pS]
  refine tk 2 ?_;simp only[pS]
  refine tk 3 ?_;simp only[pS]
  refine tk 4 ?_;simp only[pS]
  refine tu 5 ?_;simp only[pS]
  refine tu 6 ?_;simp only[pS]
  refine tu 7 ?_;simp only[pS]
  refine tu 8 ?_;simp only[pS]
  refine tk 9 ?_;simp only[pS]
  refine tk 10 ?_;simp only[pS]
  refine tu 11 ?_;simp only[pS]
  refine tu 12 ?_;simp only[pS]
  refine tu 13 ?_;simp only[pS]
  refine tu 14 ?_;simp only[pS]
  refine tu 15 ?_;simp only[pS]
  refine tu 16 ?_;simp only[pS]
  refine tu 17 ?_;simp only[pS]
  refine tu 18 ?_;simp only[pS]
  refine tu 19 ?_;simp only[pS]
  refine tu 20 ?_;simp only[pS]
  refine tu 21 ?_;simp only[pS]
  refine tu 22 ?_;simp only[pS]
  refine tk 23 ?_;simp only[pS]
  refine δ ?_;go_wp2_with fail;go_ret2;rw[hE.out];exact⟨rfl,ai.out.drew⟩
end Go.Proofs
