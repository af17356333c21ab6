/- The program's Square: the walk. -/
import Derived.Test.YtogfekjbpcfgmaaGreatZtkBgoP
set_option maxRecDepth 100000
set_option maxHeartbeats 16000000
set_option linter.unusedVariables false
namespace Go.Proofs
open Go.RowKit Cw
theorem Rd.kept3 {w w':World} {B bn:Nat} {A:Option Addr} {l:List Int} (h:Rd w B A l)(Y:B≤w.heap.size)(O:w.grownBy w' (some bn))(T:∀b I,A=some ⟨b,I,none⟩→0<l.length→b≠bn)(hs:w.heap.size≤w'.heap.size):Rd w' w'.heap.size A l:=fun J=>by
 obtain⟨b,I,e,hb,U⟩:=h J;exact⟨b,I,e,by omega,fun j V=>(World.grownBy.cell_far O ⟨b,I+j,none⟩ (show b<_ by omega) (fun X=>T b I e J (by injection X))).trans (U j V)⟩
theorem Qoq {w:World} {bn:Nat} {A:Option Addr} {l:List Int} (h:Rd w bn A l):∀b J,A=some ⟨b,J,none⟩→0<l.length→b≠bn:=fun b J e O=>by
 obtain⟨T,U,I,V,-⟩:=h O;rw[e]at I
 injection I with I
 injection I with e3
 omega
theorem Qgq {B bn:Nat} {A:Option Addr} {l:List Int} (h:∀a,A=some a→B≤a.block)(J:bn<B):∀b I,A=some ⟨b,I,none⟩→0<l.length→b≠bn:=fun b I e _=>by
 have:=h _ e;have O:B≤b:=this;omega
theorem Rd.st {w:World} {B s:Nat} {A:Option Addr} {l:List Int} {us:List Value} (h:Rd w B A l)(X:B≤w.heap.size)(O:∀b I,A=some ⟨b,I,none⟩→0<l.length→b≠s):Rd (Qbh w s 0 us) (Qbh w s 0 us).heap.size A l:=fun J=>by
 obtain⟨b,I,e,Y,U⟩:=h J;have T:=O b I e J;exact⟨b,I,e,by rw[Qbv];omega,fun j V=>(Qbp (p:=⟨b,I+j,none⟩) (fun e=>T e.symm) us 0 w).trans (U j V)⟩
theorem Qw7 {H:Nat} {W w:World} (_h:Below H W w):∃ (V:World) (bn:Nat),V=w.alloc (.cells #[] 3)∧bn=w.heap.size∧Below w.heap.size w V∧Own V bn (.slice (some ⟨bn,0,none⟩) 0 0) []∧bn<V.heap.size :=
 ⟨_,_,rfl,rfl,β,Qa9 (heap_alloc_new w (.cells #[] 3)) ρ,by simp⟩
def Qeg (S:FD)(D:Desc)(poly pts:List Int)(w:World)(e:Ending)(w':World):Prop :=
 Below w.heap.size w w'∧((64<2*(poly.length - 1)∧e=.returned (.tuple #[.agg #[.int .i64 0,.int .i64 0,.slice none 0 0,.int .i64 0,.int .i64 0,.slice none 0 0,.slice none 0 0,.slice none 0 0],.int .i64 5])) ∨
  (2*(poly.length - 1)≤64∧∃ (I Ab J O:Option Addr) (ca cb U T:Nat),e=.returned (.tuple #[.agg #[.int .i64 S.p,.int .i64 S.m,.slice I S.mod.length ca,.int .i64 D.p,.int .i64 D.m,.slice Ab D.mod.length cb,.slice J (sq2 D poly).length U,.slice O pts.length T],.int .i64 0]) ∧
   Rd w' w'.heap.size I (Qan S.z)∧Rd w' w'.heap.size Ab (Qan D)∧Rd w' w'.heap.size J (sq2 D poly)∧Rd w' w'.heap.size O pts∧(∀a,(I=some a∨Ab=some a∨J=some a∨O=some a)→w.heap.size≤a.block)∧pts.length≤T∧T≤maxLen))
theorem Qor (S:FD)(D:Desc)(poly pts:List Int)(A B A1 A2:Option Addr)(c b c1 c2:Nat)(w:World)(hr:Rd w w.heap.size A (Qan S.z))(cx:Rd w w.heap.size B (Qan D))(hS:Qcq S.p S.m (Qan S.z))(hD:Qcq D.p D.m (Qan D))(bE:Rd w w.heap.size A1 poly)(bT:Rd w w.heap.size A2 pts)(hz:QcP S.z D poly pts=0) :
  Calls Tryz.prog 65 #[.agg #[.int .i64 S.p,.int .i64 S.m,.slice A S.mod.length c,.int .i64 D.p,.int .i64 D.m,.slice B D.mod.length b,.slice A1 poly.length c1,.slice A2 pts.length c2]] w (Qeg S D poly pts w):=by
 obtain⟨cG,⟨de,df⟩,cH,aF,cI,dg,dh,cJ,cK⟩:=QbW hz;have bU:=fun W x1 x2 x3 x4=>η (QjG S D poly pts A B A1 A2 c b c1 c2 W x1 x2 hS hD x3 x4 (by unfold maxLen;omega) (by unfold maxLen;omega))
 obtain⟨s,hs⟩:=ε (w.heap.size);obtain⟨Z,hZ⟩:=ε ((w.alloc (.cells #[.int .i64 S.p,.int .i64 S.m,.slice A S.mod.length c,.int .i64 D.p,.int .i64 D.m,.slice B D.mod.length b,.slice A1 poly.length c1,.slice A2 pts.length c2] 44)).alloc (.cells #[.int .i64 0,.int .i64 0,.slice none 0 0,.int .i64 0,.int .i64 0,.slice none 0 0,.slice none 0 0,.slice none 0 0] 44));have hB:Below w.heap.size w Z:=by rw[hZ];exact (β).alloc (by simp) _
 have bo:Hid (Bxs Z s [.int .i64 S.p,.int .i64 S.m,.slice A S.mod.length c,.int .i64 D.p,.int .i64 D.m,.slice B D.mod.length b,.slice A1 poly.length c1,.slice A2 pts.length c2]):=by rw[hZ,hs];exact (Bxs.new w _ _).keep (β) (by simp)
 have aU:Hid (Bxs Z (s+1) [.int .i64 0,.int .i64 0,.slice none 0 0,.int .i64 0,.int .i64 0,.slice none 0 0,.slice none 0 0,.slice none 0 0]):=by rw[hZ,hs];have:=Bxs.new (w.alloc (.cells #[.int .i64 S.p,.int .i64 S.m,.slice A S.mod.length c,.int .i64 D.p,.int .i64 D.m,.slice B D.mod.length b,.slice A1 poly.length c1,.slice A2 pts.length c2] 44)) [.int .i64 0,.int .i64 0,.slice none 0 0,.int .i64 0,.int .i64 0,.slice none 0 0,.slice none 0 0,.slice none 0 0] 44;rw[World.size_alloc]at this;exact this
 have aB:s+1<Z.heap.size:=by rw[hZ,hs];simp
 have hq:=bU Z (hr.bm hB) (cx.bm hB) (bE.bm hB) (bT.bm hB);have bV:=η hz;obtain⟨t,ht⟩:∃t,poly.length=t+1:=⟨poly.length - 1,by omega⟩;have aC:poly.length - 1=t:=by omega
 replace hZ:=η hZ;have cz:=η hS;clear bU hz cG cH aF cI cJ cK hS;unfold Qeg;rw[aC];replace aC:=η aC;replace ht:=η ht;go_enter Tryz.func65,Tryz.ntmps65;obtain⟨a0,a1,a2,a3,a4,a5,a6,a7⟩:=bo.out.c8;go_wp2_with fail;rw[←hZ.out];simp only[←hs];have c9:w.heap.size≤s:=Nat.le_of_eq hs.symm;replace hs:=η hs;go_wp2_with fail;(with_reducible refine hq.out.mono ?_);rintro e w1 ⟨bP,⟨cV,-⟩ |⟨-,F,rt,k0,n,g,gb,Ab,cb,gv,rfl,-,-,-,rfl,cW,-⟩⟩
 ·exact absurd bV.out cV
 clear a0 a1 a2 a3 a4 a5 a6 a7 hq;obtain⟨pb,aH⟩:=ε (w1.heap.size);obtain⟨Y,hY⟩:=ε (w1.alloc (.cells #[.int .i64 S.p,.int .i64 S.m,.slice A S.mod.length c,.pointer (some ⟨g,0,none⟩),.slice (some ⟨gb,0,none⟩) F.q F.q,.slice Ab n cb,.int .i64 S.m] 154));have bF:Below w1.heap.size w1 Y:=by rw[hY];exact β
 have bW:pb<Y.heap.size:=by rw[hY,aH];simp
 have bX:Hid (Bxs Y pb [.int .i64 S.p,.int .i64 S.m,.slice A S.mod.length c,.pointer (some ⟨g,0,none⟩),.slice (some ⟨gb,0,none⟩) F.q F.q,.slice Ab n cb,.int .i64 S.m]):=by rw[hY,aH];exact Bxs.new w1 _ _
 have bq:=ζ bP bF;have da:=ζ hB bq;have bY:GF Y Y.heap.size g F:=(cW.bm bF).gf;obtain⟨V,hV⟩:=ε (Y.alloc (.cells #[.slice A1 poly.length c1,.slice A1 poly.length c1] 22));obtain⟨vb,aO⟩:=ε (Y.heap.size);have bG:pb+1=vb:=by rw[aO,hY,aH];simp
 have aV:Below Y.heap.size Y V:=by rw[hV];exact β
 have br:=ζ bq aV;have bs:=ζ hB br;have cA:vb<V.heap.size:=by rw[hV,aO];simp
 have bZ:V.cell? ⟨vb,0,none⟩=some (.slice A1 poly.length c1):=by rw[hV,aO];simp[go_sem]
 have b0:V.cell? ⟨vb,1,none⟩=some (.slice A1 poly.length c1):=by rw[hV,aO];simp[go_sem]
 have hq:=QkM F poly poly A1 A1 c1 c1 g vb V (bY.bm aV) (bE.bm bs) (bE.bm bs) (by omega) (by omega) cA bZ b0;obtain⟨n0,b9,cc,-,-⟩:=QdU bV.out;obtain rfl:t=n0:=by have:=ht.out;omega
 obtain⟨-,aY⟩:=Qtn b9 cc;rw[show QbL F.z (QbL F.z [1] poly) poly=sq2 F.z poly from rfl]at hq;obtain⟨p2,aF⟩:=ε (sq2 F.z poly);rw[←aF]at hq aY;unfold QeB at hq;replace hq:=η hq;replace aF:=η aF;clear b9 cc bZ b0;obtain⟨x0,x1,x2,x3,x4,x5,x6,x7⟩:=(bo.out.keep bq (show s<Z.heap.size by omega)).c8;obtain⟨y0,y1,y2,y3,y4,y5,y6⟩:=bX.out.c7;rw[hY]at x0 x1 x2 x3 x4 x5 x6 x7 y0 y1 y2 y3 y4 y5 y6;replace hY:=η hY;replace hV:=η hV;go_wp2_with fail;rw[←hY.out];rw[←hV.out];simp only[←aH];replace aH:=η aH;simp only[bG];replace aO:=η aO;replace bG:=η bG;(with_reducible refine hq.out.mono ?_);rintro e w2 ⟨Ap,cp,rfl,cY,-,-,cZ,cu⟩;clear hq x0 x1 x2 x3 x4 x5 x6 x7 y0 y1 y2 y3 y4 y5 y6;have aW:=ζ br cu;have bH:=ζ hB aW;have b1:=ζ aV cu;have db:t≤64:=by have:=ht.out;omega
 have dc:IntKind.i64.wrap ((p2.length:Int) - 1)=(p2.length:Int) - 1:=by rw[IntWalk.i64_in _ (by omega)]
 by_cases aZ:64<2*t
 ·have hd:decide ((64:Int)<(p2.length:Int) - 1)=true:=decide_eq_true (by omega);have bI:=aU.out.keep aW aB;obtain⟨u0,u1,u2,u3,u4,u5,u6,u7⟩:=bI.c8;obtain⟨v0,v1,v2,v3,v4,v5,v6,v7⟩:=bI.f8;have aX:Hid (Below w.heap.size w (Qbh w2 (s+1) 0 [.int .i64 0,.int .i64 0,.slice none 0 0,.int .i64 0,.int .i64 0,.slice none 0 0,.slice none 0 0,.slice none 0 0])):=stAll_below (by omega) _ _ _ bH;replace aY:=η aY;clear bI;go_wp2_with fail;exact bodyPost_ret (v:=.tuple #[.agg #[.int .i64 0,.int .i64 0,.slice none 0 0,.int .i64 0,.int .i64 0,.slice none 0 0,.slice none 0 0,.slice none 0 0],.int .i64 5]) (by simp[results,Tryz.results65,go_sem,u0,u1,u2,u3,u4,u5,u6,u7]) rfl ⟨aX.out,.inl ⟨aZ,rfl⟩⟩
 ·have hd:decide ((64:Int)<(p2.length:Int) - 1)=false:=decide_eq_false (by omega);have hN:=η (Qpn S.z A c w2 (hr.bm bH) cz.out);obtain⟨x0,x1,x2,x3,x4,x5,x6,x7⟩:=(bo.out.keep aW (show s<Z.heap.size by omega)).c8;replace aY:=η aY;replace aZ:=η aZ;go_wp2_with fail;(with_reducible refine hN.out.mono ?_);rintro e w3 ⟨gs,S2,c5,rfl,cw,bC⟩;clear hN x0 x1 x2 x3 x4 x5 x6 x7;have aA:=ζ aW bC;have a8:=ζ hB aA;have bt:=ζ b1 bC;have b3:∀W,Below w3.heap.size w3 W→w3.heap.size≤W.heap.size→Hid (Calls Tryz.prog 129 #[.pointer (some ⟨gs,0,none⟩)] W fun e w'=>∃A3 c3,e=.returned (.agg #[.int .i64 S.p,.int .i64 S.m,.slice A3 S.mod.length c3])∧Rd w' w'.heap.size A3 (Qan S.z)∧(∀b,A3=some b→W.heap.size≤b.block)∧Below W.heap.size W w'):=fun W h1 h2=>by
   have h:=QdJ S2 gs W ((cw.gf.below h1).more h2);rw[c5]at h;exact η h
  have cC:GF w3 w3.heap.size g F:=bY.bm bt;have bJ:=fun W h1 h2=>η (QdJ F g W ((cC.below h1).more h2))
  have cD:s<w3.heap.size:=θ (show s<Z.heap.size by omega) aA.size;have dd:s+1<w3.heap.size:=θ aB aA.size;have cE:pb<w3.heap.size:=θ bW bt.size;have b4:s+1≠pb:=by have:=bP.size;have:=aH.out;omega
  have b5:=(bo.out.keep aA (show s<Z.heap.size by omega)).c8.2.2.2.2.2.2.2;have b6:=(bX.out.keep bt bW).c7.2.2.2.1;have cX:∀W,Below w3.heap.size w3 W→(W.cell? ⟨pb,3,none⟩=some (.pointer (some ⟨g,0,none⟩))∧W.cell? ⟨s,7,none⟩=some (.slice A2 pts.length c2)):=fun W h=>⟨(h.cell (p:=⟨pb,3,none⟩) cE).trans b6,(h.cell (p:=⟨s,7,none⟩) cD).trans b5⟩
  have b7:Rd w3 w.heap.size A2 pts:=bT.below a8;have b8:=cY.bm bC;have bu:∀a,Ap=some a→s+1<a.block:=fun a e=>θ aB (τ br.size (cZ a e))
  have J:w3.heap.size≤w3.drew.heap.size:=Nat.le_refl _;have O:Hid (Below w3.heap.size w3 w3.drew):=κ.drew;have cF:=η (cX _ O.out);clear cw b5 b6;go_wp2_with fail;refine wp_region_held_drew (S:=fun w'=>w'.cell? ⟨pb,3,none⟩=some (.pointer (some ⟨g,0,none⟩))∧w'.cell? ⟨s,7,none⟩=some (.slice A2 pts.length c2)) (by kernel_rfl) (by (try dsimp only);exact cF.out) (fun hHeld=>?_)
  revert O J hHeld
  generalize w3.drew=wq;intro J O hHeld;refine tk 0 ?_;simp only[pS]
  refine tk 2 ?_;simp only[pS]
  refine tk 3 ?_;simp only[pS]
  refine tk 5 ?_;simp only[pS]
  refine tk 7 ?_;simp only[pS]
  refine tk 8 ?_;simp only[pS]
  refine wpAnyH_ready (rs:=[1,6]) (by kernel_rfl) (by simp) ?_;refine AllReadyH.cons (o:=⟨_,_,_,_,_,_⟩) rfl (fun K T=>?_) ?_
  ·go_simp;go_at_call 129;(with_reducible refine (b3 _ O.out J).out.mono ?_);rintro e wq ⟨X,ca,rfl,aj,av,I⟩;try have aP:=η (Qgq (l:=Qan S.z) av ai)
   try replace ho:=ho.below I ρ
   try replace ai:=θ ai I.size
   replace av:=fun a e=>τ J (av a e)
   replace O:=η (O.out.trans (I.mono J));replace J:=τ J I.size;clear I;go_wp2_with fail;refine T.out _ _ (cX _ O.out) fun hHeld=>?_;clear T K;try simp only[pS]
   refine wpAnyH_ready (rs:=[4,6]) (by kernel_rfl) (by simp) ?_;refine AllReadyH.cons (o:=⟨_,_,_,_,_,_⟩) rfl (fun K T=>?_) ?_
   all_goals first
    |(go_simp
      go_at_call 129;(with_reducible refine (bJ _ O.out J).out.mono ?_);rintro e wq ⟨U,ad,rfl,aq,ak,I⟩;replace aj:=aj.bm I;try have aI:=η (Qgq (l:=Qan F.z) ak ai)
      try replace ho:=ho.below I ρ
      try replace ai:=θ ai I.size
      replace ak:=fun a e=>τ J (ak a e)
      replace O:=η (O.out.trans (I.mono J));replace J:=τ J I.size;clear I;go_wp2_with fail;refine T.out _ _ (cX _ O.out) fun hHeld=>?_;clear T K;try simp only[pS]
      refine rd 6 fun K T=>?_
      go_simp;obtain⟨wq,bn,aw,ag,I,ho,ai⟩:=Qw7 O.out;rw[←aw];simp only[←ag];have bv:w3.heap.size≤bn:=τ J (Nat.le_of_eq ag.symm);try have aP:=η (Qoq (show Rd wq bn X (Qan S.z) from by rw[ag];exact aj.below I))
      try have aI:=η (Qoq (show Rd wq bn U (Qan F.z) from by rw[ag];exact aq.below I))
      try replace aj:=aj.bm I
      try replace aq:=aq.bm I
      replace aw:=η aw;replace ag:=η ag;replace O:=η (O.out.trans (I.mono J));replace J:=τ J I.size;clear I)
    |(refine AllReadyH.cons (o:=⟨_,_,_,_,_,_⟩) rfl (fun K T=>?_) AllReadyH.nil
      go_simp;obtain⟨wq,bn,aw,ag,I,ho,ai⟩:=Qw7 O.out;rw[←aw];simp only[←ag];have bv:w3.heap.size≤bn:=τ J (Nat.le_of_eq ag.symm);try have aP:=η (Qoq (show Rd wq bn X (Qan S.z) from by rw[ag];exact aj.below I))
      try have aI:=η (Qoq (show Rd wq bn U (Qan F.z) from by rw[ag];exact aq.below I))
      try replace aj:=aj.bm I
      try replace aq:=aq.bm I
      replace aw:=η aw;replace ag:=η ag;replace O:=η (O.out.trans (I.mono J));replace J:=τ J I.size;clear I;refine T.out _ _ (cX _ O.out) fun hHeld=>?_;clear T K;try simp only[pS]
      refine rd 4 fun K T=>?_
      go_simp;go_at_call 129;(with_reducible refine (bJ _ O.out J).out.mono ?_);rintro e wq ⟨U,ad,rfl,aq,ak,I⟩;replace aj:=aj.bm I;try have aI:=η (Qgq (l:=Qan F.z) ak ai)
      try replace ho:=ho.below I ρ
      try replace ai:=θ ai I.size
      replace ak:=fun a e=>τ J (ak a e)
      replace O:=η (O.out.trans (I.mono J));replace J:=τ J I.size;clear I;go_wp2_with fail)
   all_goals
    refine T.out _ _ (cX _ O.out) fun hHeld=>?_;clear T K;try simp only[pS]
    refine rd 9 fun K T=>?_
    refine QaL (n2:=pts.length) rfl (.tmp 45) (.tmp 47) rfl bn _ [] w.heap.size A2 c2 pts ho (b7.below (O.out.mono a8.size)) (by rfl) (by rfl) rfl (by simp;omega) (Nat.le_of_lt ai) ?_;intro v4 w4 aM aN bm _;rw[List.nil_append]at aM;obtain⟨Aq,cq,rfl,bO,bl,aL⟩:=aM.form;have bK:=Own.capM aM;have a9:=aj.kept3 ρ bm aP.out aN.size;have ba:=aq.kept3 ρ bm aI.out aN.size;have ar:=η (O.out.trans (aN.mono bv));have aJ:=aA.trans (ar.out.mono aA.size);have bL:=ζ hB aJ;have cS:∀us,(Qbh w4 (s+1) 0 us).cell? ⟨pb,3,none⟩=some (.pointer (some ⟨g,0,none⟩))∧(Qbh w4 (s+1) 0 us).cell? ⟨s,7,none⟩=some (.slice A2 pts.length c2):=fun us=>⟨(Qbp (p:=⟨pb,3,none⟩) b4 us 0 w4).trans (cX _ ar.out).1,(Qbp (p:=⟨s,7,none⟩) (show s+1≠s by omega) us 0 w4).trans (cX _ ar.out).2⟩
    obtain⟨u0,u1,u2,u3,u4,u5,u6,u7⟩:=(aU.out.keep aJ aB).c8;obtain⟨v0,v1,v2,v3,v4,v5,v6,v7⟩:=(aU.out.keep aJ aB).f8;refine T.out _ _ (cX _ ar.out) fun hHeld=>?_;clear T K;try simp only[pS]
    refine tk 10 ?_;simp only[pS]
    refine rd 11 fun K T=>?_
    go_simp;refine T.out _ _ (cS [.int .i64 S.p,.int .i64 S.m,.slice X S.mod.length ca,.int .i64 F.p,.int .i64 F.m,.slice U F.mod.length ad,.slice Ap p2.length cp,.slice Aq pts.length cq]) fun hHeld=>?_;clear T K;try simp only[pS]
    refine tk 12 ?_;simp only[pS]
    refine δ ?_;have aX:Hid (Below w.heap.size w (Qbh w4 (s+1) 0 [.int .i64 S.p,.int .i64 S.m,.slice X S.mod.length ca,.int .i64 F.p,.int .i64 F.m,.slice U F.mod.length ad,.slice Ap p2.length cp,.slice Aq pts.length cq])):=stAll_below (by omega) _ _ _ bL;have r1:=a9.st (us:=[.int .i64 S.p,.int .i64 S.m,.slice X S.mod.length ca,.int .i64 F.p,.int .i64 F.m,.slice U F.mod.length ad,.slice Ap p2.length cp,.slice Aq pts.length cq]) ρ (Qgq (bn:=s+1) av (by omega));have r2:=ba.st (us:=[.int .i64 S.p,.int .i64 S.m,.slice X S.mod.length ca,.int .i64 F.p,.int .i64 F.m,.slice U F.mod.length ad,.slice Ap p2.length cp,.slice Aq pts.length cq]) ρ (Qgq (bn:=s+1) ak (by omega));have r3:=(b8.bm ar.out).st (us:=[.int .i64 S.p,.int .i64 S.m,.slice X S.mod.length ca,.int .i64 F.p,.int .i64 F.m,.slice U F.mod.length ad,.slice Ap p2.length cp,.slice Aq pts.length cq]) ρ (Qgq (bn:=s+1) (B:=s+1+1) (fun a e=>bu a e) (by omega));have r4:=bl.st (us:=[.int .i64 S.p,.int .i64 S.m,.slice X S.mod.length ca,.int .i64 F.p,.int .i64 F.m,.slice U F.mod.length ad,.slice Ap p2.length cp,.slice Aq pts.length cq]) ρ (Qgq (bn:=s+1) (fun a e=>(aL a e).1) (by omega));have bN:Hid (∀a,(X=some a∨U=some a∨Ap=some a∨Aq=some a)→w.heap.size≤a.block):=fun a e=>by
     have h1:=a8.size;rcases e with e |e |e |e
     ·have:=av a e;omega
     ·have:=ak a e;omega
     ·have:=bu a e;omega
     ·have:=(aL a e).1;omega
    have ax:Hid (Qeg S F.z poly pts w (.returned (.tuple #[.agg #[.int .i64 S.p,.int .i64 S.m,.slice X S.mod.length ca,.int .i64 F.p,.int .i64 F.m,.slice U F.mod.length ad,.slice Ap p2.length cp,.slice Aq pts.length cq],.int .i64 0])) (Qbh w4 (s+1) 0 [.int .i64 S.p,.int .i64 S.m,.slice X S.mod.length ca,.int .i64 F.p,.int .i64 F.m,.slice U F.mod.length ad,.slice Ap p2.length cp,.slice Aq pts.length cq])):=by
     unfold Qeg;rw[aC.out,←aF.out];exact⟨aX.out,.inr ⟨Nat.le_of_not_lt aZ.out,X,U,Ap,Aq,ca,ad,cp,cq,rfl,r1,r2,r3,r4,bN.out,bO,bK⟩⟩
    replace ax:=η ax.out;unfold Qeg at ax;rw[aC.out]at ax;clear r1 r2 r3 r4 a9 ba bl aL;go_wp2_with fail;exact bodyPost_ret (v:=.tuple #[.agg #[.int .i64 S.p,.int .i64 S.m,.slice X S.mod.length ca,.int .i64 F.p,.int .i64 F.m,.slice U F.mod.length ad,.slice Ap p2.length cp,.slice Aq pts.length cq],.int .i64 0]) (by simp[results,Tryz.results65,go_sem,u0,u1,u2,u3,u4,u5,u6,u7]) rfl ax.out
  refine AllReadyH.cons (o:=⟨_,_,_,_,_,_⟩) rfl (fun K T=>?_) AllReadyH.nil;go_simp;obtain⟨wq,bn,aw,ag,I,ho,ai⟩:=Qw7 O.out;rw[←aw];simp only[←ag];have bv:w3.heap.size≤bn:=τ J (Nat.le_of_eq ag.symm);try have aP:=η (Qoq (show Rd wq bn X (Qan S.z) from by rw[ag];exact aj.below I))
  try have aI:=η (Qoq (show Rd wq bn U (Qan F.z) from by rw[ag];exact aq.below I))
  try replace aj:=aj.bm I
  try replace aq:=aq.bm I
  replace aw:=η aw;replace ag:=η ag;replace O:=η (O.out.trans (I.mono J));replace J:=τ J I.size;clear I;refine T.out _ _ (cX _ O.out) fun hHeld=>?_;clear T K;try simp only[pS]
  refine rd 1 fun K T=>?_
  go_simp;go_at_call 129;(with_reducible refine (b3 _ O.out J).out.mono ?_);rintro e wq ⟨X,ca,rfl,aj,av,I⟩;try have aP:=η (Qgq (l:=Qan S.z) av ai)
  try replace ho:=ho.below I ρ
  try replace ai:=θ ai I.size
  replace av:=fun a e=>τ J (av a e)
  replace O:=η (O.out.trans (I.mono J));replace J:=τ J I.size;clear I;go_wp2_with fail;refine T.out _ _ (cX _ O.out) fun hHeld=>?_;clear T K;try simp only[pS]
  refine rd 4 fun K T=>?_
  go_simp;go_at_call 129;(with_reducible refine (bJ _ O.out J).out.mono ?_);rintro e wq ⟨U,ad,rfl,aq,ak,I⟩;replace aj:=aj.bm I;try have aI:=η (Qgq (l:=Qan F.z) ak ai)
  try replace ho:=ho.below I ρ
  try replace ai:=θ ai I.size
  replace ak:=fun a e=>τ J (ak a e)
  replace O:=η (O.out.trans (I.mono J));replace J:=τ J I.size;clear I;go_wp2_with fail;refine T.out _ _ (cX _ O.out) fun hHeld=>?_;clear T K;try simp only[pS]
  refine rd 9 fun K T=>?_
  refine QaL (n2:=pts.length) rfl (.tmp 45) (.tmp 47) rfl bn _ [] w.heap.size A2 c2 pts ho (b7.below (O.out.mono a8.size)) (by rfl) (by rfl) rfl (by simp;omega) (Nat.le_of_lt ai) ?_;intro v4 w4 aM aN bm _;rw[List.nil_append]at aM;obtain⟨Aq,cq,rfl,bO,bl,aL⟩:=aM.form;have bK:=Own.capM aM;have a9:=aj.kept3 ρ bm aP.out aN.size;have ba:=aq.kept3 ρ bm aI.out aN.size;have ar:=η (O.out.trans (aN.mono bv));have aJ:=aA.trans (ar.out.mono aA.size);have bL:=ζ hB aJ;have cS:∀us,(Qbh w4 (s+1) 0 us).cell? ⟨pb,3,none⟩=some (.pointer (some ⟨g,0,none⟩))∧(Qbh w4 (s+1) 0 us).cell? ⟨s,7,none⟩=some (.slice A2 pts.length c2):=fun us=>⟨(Qbp (p:=⟨pb,3,none⟩) b4 us 0 w4).trans (cX _ ar.out).1,(Qbp (p:=⟨s,7,none⟩) (show s+1≠s by omega) us 0 w4).trans (cX _ ar.out).2⟩
  obtain⟨u0,u1,u2,u3,u4,u5,u6,u7⟩:=(aU.out.keep aJ aB).c8;obtain⟨v0,v1,v2,v3,v4,v5,v6,v7⟩:=(aU.out.keep aJ aB).f8;refine T.out _ _ (cX _ ar.out) fun hHeld=>?_;clear T K;try simp only[pS]
  refine tk 10 ?_;simp only[pS]
  refine rd 11 fun K T=>?_
  go_simp;refine T.out _ _ (cS [.int .i64 S.p,.int .i64 S.m,.slice X S.mod.length ca,.int .i64 F.p,.int .i64 F.m,.slice U F.mod.length ad,.slice Ap p2.length cp,.slice Aq pts.length cq]) fun hHeld=>?_;clear T K;try simp only[pS]
  refine tk 12 ?_;simp only[pS]
  refine δ ?_;have aX:Hid (Below w.heap.size w (Qbh w4 (s+1) 0 [.int .i64 S.p,.int .i64 S.m,.slice X S.mod.length ca,.int .i64 F.p,.int .i64 F.m,.slice U F.mod.length ad,.slice Ap p2.length cp,.slice Aq pts.length cq])):=stAll_below (by omega) _ _ _ bL;have r1:=a9.st (us:=[.int .i64 S.p,.int .i64 S.m,.slice X S.mod.length ca,.int .i64 F.p,.int .i64 F.m,.slice U F.mod.length ad,.slice Ap p2.length cp,.slice Aq pts.length cq]) ρ (Qgq (bn:=s+1) av (by omega));have r2:=ba.st (us:=[.int .i64 S.p,.int .i64 S.m,.slice X S.mod.length ca,.int .i64 F.p,.int .i64 F.m,.slice U F.mod.length ad,.slice Ap p2.length cp,.slice Aq pts.length cq]) ρ (Qgq (bn:=s+1) ak (by omega));have r3:=(b8.bm ar.out).st (us:=[.int .i64 S.p,.int .i64 S.m,.slice X S.mod.length ca,.int .i64 F.p,.int .i64 F.m,.slice U F.mod.length ad,.slice Ap p2.length cp,.slice Aq pts.length cq]) ρ (Qgq (bn:=s+1) (B:=s+1+1) (fun a e=>bu a e) (by omega));have r4:=bl.st (us:=[.int .i64 S.p,.int .i64 S.m,.slice X S.mod.length ca,.int .i64 F.p,.int .i64 F.m,.slice U F.mod.length ad,.slice Ap p2.length cp,.slice Aq pts.length cq]) ρ (Qgq (bn:=s+1) (fun a e=>(aL a e).1) (by omega));have bN:Hid (∀a,(X=some a∨U=some a∨Ap=some a∨Aq=some a)→w.heap.size≤a.block):=fun a e=>by
   have h1:=a8.size;rcases e with e |e |e |e
   ·have:=av a e;omega
   ·have:=ak a e;omega
   ·have:=bu a e;omega
   ·have:=(aL a e).1;omega
  have ax:Hid (Qeg S F.z poly pts w (.returned (.tuple #[.agg #[.int .i64 S.p,.int .i64 S.m,.slice X S.mod.length ca,.int .i64 F.p,.int .i64 F.m,.slice U F.mod.length ad,.slice Ap p2.length cp,.slice Aq pts.length cq],.int .i64 0])) (Qbh w4 (s+1) 0 [.int .i64 S.p,.int .i64 S.m,.slice X S.mod.length ca,.int .i64 F.p,.int .i64 F.m,.slice U F.mod.length ad,.slice Ap p2.length cp,.slice Aq pts.length cq])):=by
   unfold Qeg;rw[aC.out,←aF.out];exact⟨aX.out,.inr ⟨Nat.le_of_not_lt aZ.out,X,U,Ap,Aq,ca,ad,cp,cq,rfl,r1,r2,r3,r4,bN.out,bO,bK⟩⟩
  replace ax:=η ax.out;unfold Qeg at ax;rw[aC.out]at ax;clear r1 r2 r3 r4 a9 ba bl aL;go_wp2_with fail;exact bodyPost_ret (v:=.tuple #[.agg #[.int .i64 S.p,.int .i64 S.m,.slice X S.mod.length ca,.int .i64 F.p,.int .i64 F.m,.slice U F.mod.length ad,.slice Ap p2.length cp,.slice Aq pts.length cq],.int .i64 0]) (by simp[results,Tryz.results65,go_sem,u0,u1,u2,u3,u4,u5,u6,u7]) rfl ax.out
end Go.Proofs
